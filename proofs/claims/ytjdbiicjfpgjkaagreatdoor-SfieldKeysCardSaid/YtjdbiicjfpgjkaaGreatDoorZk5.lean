/- The law SfieldKeys: its row and card. Its conditions: the row's own. -/
import Derived.Test.YtjdbiicjfpgjkaaGreatDoorZk4
import Derived.Lib.LaidTab
import Derived.Stop.LaidErr
/- Chapter 6: the program's reader and the document's, of one member. -/
namespace Go.Proofs.YtjdbiicjfpgjkaaGreatDoor.Pl
open Go.RowKit Go.Proofs.YtjdbiicjfpgjkaaGreatDoor.Q Go.Proofs.YtjdbiicjfpgjkaaGreatDoor.Sf Go.Proofs.YtjdbiicjfpgjkaaGreatDoorW.PrintWords Go.Proofs.YtjdbiicjfpgjkaaGreatDoorW.PrintLast
set_option linter.unusedVariables false
set_option linter.unusedSimpArgs false
def encM (m : S34) (r : ByteArray) : Ten := (m.f0, m.f1, m.f2.f0, m.f2.f1, m.f2.f2, m.f2.f3, m.f3, m.f4, r, 0)
/-- What the program's reader answers. -/
def Told (n : Nat) (x : Ten) (o : Option (S34 × ByteArray)) : Prop := match o with
  | some (m, r) => x = encM m r
  | none => errOf x = 50 ∧ restOf x = ⟨#[]⟩ ∧ x.1.size ≤ n
theorem sp_size (s : ByteArray) : (drpB spP s).size ≤ s.size := drp_size spP s
theorem next_s (s : ByteArray) (hs : s.size ≤ 2199023255552) : sfitem_Next.f s = some (refN (rdNext s)) := by
  unfold sfitem_Next.f
  rw [if_pos hs]
  cases rdNext s with
  | none => rfl
  | some x => rfl
theorem params_s (s : ByteArray) (hs : s.size ≤ 2199023255552) : sfitem_Params.f s = some (refP (rdParams s)) := by
  unfold sfitem_Params.f
  rw [if_pos hs]
  cases rdParams s with
  | none => rfl
  | some x => rfl
theorem inner_s : ∀ (d : Nat) (s : ByteArray) (its : List S31) (k : Nat), s.size < d → s.size ≤ 20000 → its.length + s.size ≤ 20000 → d ≤ k →
    ∃ x, sfield_inner.l0 k s ⟨#[]⟩ true 0 0 ⟨#[]⟩ its = some x ∧ Told 0 x ((rdInner d s its).bind fun q => some (mIn q.1.1 q.1.2, q.2))
  | 0, _, _, _, h, _, _, _ => absurd h (by omega)
  | d + 1, s, its, k, hd, hs, hl, hk => by
    obtain ⟨k, rfl⟩ : ∃ k', k = k' + 1 := ⟨k - 1, by omega⟩
    have hz := sp_size s
    rw [sfield_inner.l0, trimL1_f s (by omega), Option.bind_some, cut_f, Option.bind_some, rdInner]
    by_cases ha : atF (drpB spP s) 41 = true
    · have ha2 : atF (drpB spP s) ((41 : UInt8).toNat : Int) = true := ha
      rw [if_pos ha2, if_pos ha]
      dsimp only
      rw [if_pos rfl, params_s _ (by rw [size_tl]; omega), Option.bind_some]
      cases rdParams (tl (drpB spP s)) with
      | none => exact ⟨_, rfl, rfl, rfl, Nat.le_refl _⟩
      | some p => exact ⟨_, rfl, rfl⟩
    · have ha2 : ¬ atF (drpB spP s) ((41 : UInt8).toNat : Int) = true := ha
      rw [if_neg ha2, if_neg ha]
      dsimp only
      rw [if_neg (by decide), next_s _ (by omega), Option.bind_some]
      cases hn : rdNext (drpB spP s) with
      | none => exact ⟨_, by rw [refN]; dsimp only; rw [if_neg (by decide)], rfl, rfl, Nat.le_refl _⟩
      | some x =>
        obtain ⟨v, l, t⟩ := x
        have h1 := next_lt hn
        simp only [refN, Option.bind_some]
        rw [if_pos trivial]
        by_cases hi : its ≠ []
        · have h2 : (its.length : Int) > 0 := by
            have : 0 < its.length := List.length_pos_iff.2 hi
            omega
          rw [if_pos h2]
          by_cases he : drpB spP s = s
          · rw [if_pos (by rw [he]), if_pos ⟨hi, he⟩]
            exact ⟨_, rfl, rfl, rfl, Nat.le_refl _⟩
          · rw [if_neg (fun e => he (toList_inj.1 e)), if_pos (by omega), if_neg (fun e => he e.2)]
            exact inner_s d t _ k (by omega) (by omega) (by rw [List.length_append, List.length_singleton]; omega) (by omega)
        · have h2 : ¬ (its.length : Int) > 0 := by
            have : its = [] := Classical.not_not.1 hi
            rw [this]; decide
          rw [if_neg h2, if_pos (by omega), if_neg (fun e => hi e.1)]
          exact inner_s d t _ k (by omega) (by omega) (by rw [List.length_append, List.length_singleton]; omega) (by omega)
theorem member_s (s : ByteArray) (hs : s.size ≤ 20000) (k : Nat) (hk : s.size + 1 ≤ k) : ∃ x, sfield_member.f k s = some x ∧ Told 0 x (rdMember s) := by
  unfold sfield_member.f rdMember
  rw [cut_f, Option.bind_some]
  by_cases ha : atF s 40 = true
  · have ha2 : atF s ((40 : UInt8).toNat : Int) = true := ha
    have h0 := atF_pos ha
    rw [if_pos ha2, if_pos ha]
    dsimp only
    rw [if_pos rfl]
    unfold sfield_inner.f
    obtain ⟨x, hx, ht⟩ := inner_s s.size (tl s) [] k (by rw [size_tl]; omega) (by rw [size_tl]; omega) (by rw [size_tl]; simp; omega) (by omega)
    rw [hx, Option.bind_some]
    exact ⟨_, rfl, ht⟩
  · have ha2 : ¬ atF s ((40 : UInt8).toNat : Int) = true := ha
    rw [if_neg ha2, if_neg ha]
    dsimp only
    rw [if_neg (by decide), next_s s (by omega), Option.bind_some]
    cases rdNext s with
    | none => exact ⟨_, rfl, rfl, rfl, Nat.le_refl _⟩
    | some x => exact ⟨_, rfl, rfl⟩
theorem keyed_s (s : ByteArray) (hs : s.size ≤ 20000) (k : Nat) (hk : s.size + 1 ≤ k) : ∃ x, sfield_keyed.f k s = some x ∧ Told s.size x (rdKeyed s) := by
  unfold sfield_keyed.f rdKeyed sfitem_Key.f
  rw [if_pos (by omega), Option.bind_some]
  unfold keyF
  cases hr : rdKey s with
  | none => exact ⟨_, by dsimp only; rw [if_neg (by decide)], rfl, rfl, Nat.zero_le _⟩
  | some x =>
    obtain ⟨ky, t⟩ := x
    have h1 := key_le hr
    dsimp only
    rw [if_pos rfl, cut_f, Option.bind_some, Option.bind_some]
    dsimp only
    by_cases ha : atF t 61 = true
    · have ha2 : atF t ((61 : UInt8).toNat : Int) = true := ha
      have h0 := atF_pos ha
      rw [if_pos ha2, if_pos ha]
      dsimp only
      rw [if_pos rfl]
      obtain ⟨x, hx, ht⟩ := member_s (tl t) (by rw [size_tl]; omega) k (by rw [size_tl]; omega)
      rw [hx, Option.bind_some]
      refine ⟨_, rfl, ?_⟩
      cases hm : rdMember (tl t) with
      | none =>
        rw [hm] at ht
        exact ⟨ht.1, ht.2.1, h1.2⟩
      | some y =>
        rw [hm] at ht
        have ht2 : x = encM y.1 y.2 := ht
        rw [ht2]
        rfl
    · have ha2 : ¬ atF t ((61 : UInt8).toNat : Int) = true := ha
      rw [if_neg ha2, if_neg ha]
      dsimp only
      rw [if_neg (by decide), params_s t (by omega), Option.bind_some]
      refine ⟨_, rfl, ?_⟩
      cases rdParams t with
      | none => exact ⟨rfl, rfl, h1.2⟩
      | some p => rfl
end Go.Proofs.YtjdbiicjfpgjkaaGreatDoor.Pl
/- Chapter 6: lists and dictionaries, as both readers read them. -/
namespace Go.Proofs.YtjdbiicjfpgjkaaGreatDoor.Pl
open Go.RowKit Go.Proofs.YtjdbiicjfpgjkaaGreatDoor.Q Go.Proofs.YtjdbiicjfpgjkaaGreatDoor.Sf Go.Proofs.YtjdbiicjfpgjkaaGreatDoorW.PrintWords Go.Proofs.YtjdbiicjfpgjkaaGreatDoorW.PrintLast
set_option linter.unusedVariables false
set_option linter.unusedSimpArgs false
/-- What stands behind a member, and behind a comma there. -/
def aftR (r : ByteArray) : ByteArray := drpB wsP r
def nxtR (r : ByteArray) : ByteArray := drpB wsP (tl (drpB wsP r))
def rdAll (rd : ByteArray → Option (S34 × ByteArray)) : Nat → ByteArray → Option (List S34)
  | 0, _ => none
  | d + 1, s => if s.toList = [] then some [] else (rd s).bind fun x =>
    if (aftR x.2).toList = [] then some [x.1] else if atF (aftR x.2) 44 = true ∧ (nxtR x.2).toList ≠ [] then (rdAll rd d (nxtR x.2)).bind fun l => some (x.1 :: l) else none
/-- A reader whose rest is less. -/
def Less (rd : ByteArray → Option (S34 × ByteArray)) : Prop := ∀ s m r, rd s = some (m, r) → r.size < s.size ∧ Fit s.size m
theorem less_k : Less rdKeyed := fun _ _ _ h => keyed_lt h
theorem aft_size (r : ByteArray) : (aftR r).size ≤ r.size := drp_size _ _
theorem nxt_size (r : ByteArray) : (nxtR r).size ≤ r.size - 1 := by
  have h1 := drp_size wsP (tl (drpB wsP r))
  have h2 := drp_size wsP r
  rw [size_tl] at h1
  show (drpB wsP (tl (drpB wsP r))).size ≤ _
  omega
theorem all_fit {rd : ByteArray → Option (S34 × ByteArray)} (hl : Less rd) : ∀ (d : Nat) (s : ByteArray) (l : List S34), rdAll rd d s = some l → l.length ≤ s.size ∧ ∀ m ∈ l, Fit s.size m
  | 0, _, _, h => by cases h
  | d + 1, s, l, h => by
    rw [rdAll] at h
    split at h
    · obtain rfl := Option.some.inj h
      exact ⟨Nat.zero_le _, fun m hm => by cases hm⟩
    · obtain ⟨⟨m, r⟩, hx, h⟩ := Option.bind_eq_some_iff.1 h
      obtain ⟨h1, h2⟩ := hl _ _ _ hx
      split at h
      · obtain rfl := Option.some.inj h
        exact ⟨by simp; omega, fun q hq => by rw [List.mem_singleton.1 hq]; exact h2⟩
      · split at h
        · obtain ⟨l', hl', h⟩ := Option.bind_eq_some_iff.1 h
          obtain rfl := Option.some.inj h
          obtain ⟨i1, i2⟩ := all_fit hl d _ _ hl'
          have h3 := nxt_size r
          refine ⟨by simp only [List.length_cons]; dsimp only at i1; omega, fun q hq => ?_⟩
          rcases List.mem_cons.1 hq with rfl | hq
          · exact h2
          · exact (i2 q hq).mono (by dsimp only; omega)
        · cases h
def cutR (r : ByteArray) : ByteArray × Bool := if atF (aftR r) 44 = true then (tl (aftR r), true) else (aftR r, false)
theorem mem1_eq {nx : ByteArray → Option Ten} {s : ByteArray} {x : Ten} (hx : nx s = some x) (hr : (restOf x).size ≤ 100000) :
    mem1 nx s = some ((memOf x, if errOf x = 0 ∧ (aftR (restOf x)).toList ≠ [] ∧ ((cutR (restOf x)).2 = false ∨ (drpB wsP (cutR (restOf x)).1).toList = []) then 50 else errOf x), drpB wsP (cutR (restOf x)).1, decide ((aftR (restOf x)).toList = [])) := by
  have h1 := aft_size (restOf x)
  have h2 : (cutR (restOf x)).1.size ≤ (restOf x).size := by
    unfold cutR
    split
    · show (tl (aftR (restOf x))).size ≤ _; rw [size_tl]; omega
    · exact h1
  unfold mem1
  rw [hx, Option.bind_some, trimL2_f _ (by omega), Option.bind_some]
  have e1 : strings_CutPrefix.f (drpB wsP (restOf x)) ⟨#[44]⟩ = some (cutR (restOf x)) := cut_f _ 44
  rw [e1, Option.bind_some, trimL2_f _ (by omega), Option.bind_some]
  rfl
def GoodY (ys : List (S34 × Int)) (o : Option (List S34)) : Prop := match o with
  | some l => ys = l.map (fun m => (m, 0))
  | none => ∃ p m, ys = p ++ [(m, 50)] ∧ ∀ y ∈ p, y.2 = (0 : Int)
theorem mems_l {nx : ByteArray → Option Ten} {rd : ByteArray → Option (S34 × ByteArray)} (hl : Less rd) (hR : ∀ s, s.size ≤ 5000 → ∃ x, nx s = some x ∧ Told 5000 x (rd s)) :
    ∀ (d : Nat) (s : ByteArray), s.size < d → s.size ≤ 5000 → ∃ ys, memsL nx d s = some ys ∧ ys.length ≤ s.size + 1 ∧ (∀ y ∈ ys, y.1.f0.size ≤ 5000) ∧ GoodY ys (rdAll rd d s)
  | 0, _, h, _ => absurd h (by omega)
  | d + 1, s, hd, hs => by
    rw [memsL, rdAll]
    by_cases h0 : s.toList = []
    · rw [if_pos h0, if_pos h0]
      exact ⟨_, rfl, Nat.zero_le _, (fun y hy => by cases hy), rfl⟩
    · rw [if_neg h0, if_neg h0]
      obtain ⟨x, hx, ht⟩ := hR s hs
      cases hr : rd s with
      | none =>
        rw [hr] at ht
        obtain ⟨t1, t2, t3⟩ := ht
        rw [mem1_eq hx (by rw [t2]; decide), Option.bind_some]
        dsimp only
        have e1 : (aftR (restOf x)).toList = [] := by rw [t2, L_toList]; unfold aftR; rw [L_drp]; rfl
        rw [if_pos (.inr (by simp [e1])), t1, if_neg (by omega)]
        exact ⟨_, rfl, by simp, fun y hy => by rw [List.mem_singleton.1 hy]; exact t3, [], memOf x, rfl, fun y hy => by cases hy⟩
      | some y =>
        obtain ⟨m, r⟩ := y
        obtain ⟨h1, h2⟩ := hl _ _ _ hr
        rw [hr] at ht
        obtain rfl : x = encM m r := ht
        have hm : (memOf (encM m r)).f0.size ≤ 5000 := Nat.le_trans h2.2.2.2.2 hs
        rw [mem1_eq hx (by show r.size ≤ _; omega), Option.bind_some, Option.bind_some]
        dsimp only
        have e1 : restOf (encM m r) = r := rfl
        have e2 : memOf (encM m r) = m := rfl
        have e3 : errOf (encM m r) = 0 := rfl
        rw [e1, e3]
        rw [e2] at hm ⊢
        by_cases ha : (aftR r).toList = []
        · have hE : (if (0 : Int) = 0 ∧ (aftR r).toList ≠ [] ∧ ((cutR r).2 = false ∨ (drpB wsP (cutR r).1).toList = []) then (50 : Int) else 0) = 0 := if_neg (fun e => e.2.1 ha)
          rw [hE, if_pos (.inr (by simp [ha])), if_pos ha]
          exact ⟨_, rfl, by simp, fun y hy => by rw [List.mem_singleton.1 hy]; exact hm, rfl⟩
        · by_cases hc : atF (aftR r) 44 = true ∧ (nxtR r).toList ≠ []
          · have e4 : cutR r = (tl (aftR r), true) := if_pos hc.1
            have e5 : drpB wsP (cutR r).1 = nxtR r := by rw [e4]; rfl
            have e6 : (cutR r).2 = true := by rw [e4]
            have h3 := nxt_size r
            have hE : (if (0 : Int) = 0 ∧ (aftR r).toList ≠ [] ∧ ((cutR r).2 = false ∨ (drpB wsP (cutR r).1).toList = []) then (50 : Int) else 0) = 0 := if_neg (fun e => e.2.2.elim (fun h => by rw [e6] at h; cases h) (fun h => hc.2 (by rw [← e5]; exact h)))
            rw [hE, e5, if_neg (by simp [ha]), if_pos (by omega), if_neg ha, if_pos hc]
            obtain ⟨ys, i1, i2, i3, i4⟩ := mems_l hl hR d (nxtR r) (by omega) (by omega)
            rw [i1, Option.bind_some]
            refine ⟨_, rfl, by simp only [List.length_cons]; omega, fun y hy => ?_, ?_⟩
            · rcases List.mem_cons.1 hy with rfl | hy
              · exact hm
              · exact i3 y hy
            · cases hq : rdAll rd d (nxtR r) with
              | none =>
                rw [hq] at i4
                obtain ⟨p, m', j1, j2⟩ := i4
                refine ⟨(m, 0) :: p, m', by rw [j1]; rfl, fun y hy => ?_⟩
                rcases List.mem_cons.1 hy with rfl | hy
                · rfl
                · exact j2 y hy
              | some l =>
                rw [hq] at i4
                have i5 : ys = l.map (fun m => (m, 0)) := i4
                rw [i5]
                rfl
          · have e7 : (cutR r).2 = false ∨ (drpB wsP (cutR r).1).toList = [] := by
              unfold cutR
              by_cases hb : atF (aftR r) 44 = true
              · rw [if_pos hb]
                exact .inr (Classical.byContradiction fun e => hc ⟨hb, e⟩)
              · rw [if_neg hb]; exact .inl rfl
            have hE : (if (0 : Int) = 0 ∧ (aftR r).toList ≠ [] ∧ ((cutR r).2 = false ∨ (drpB wsP (cutR r).1).toList = []) then (50 : Int) else 0) = 50 := if_pos ⟨rfl, ha, e7⟩
            rw [hE, if_pos (.inl (by decide)), if_neg ha, if_neg hc]
            exact ⟨_, rfl, by simp, fun y hy => by rw [List.mem_singleton.1 hy]; exact hm, [], m, rfl, fun y hy => by cases hy⟩
theorem find_bad (p : List (S34 × Int)) (m : S34) (h : ∀ y ∈ p, y.2 = (0 : Int)) : (p ++ [(m, 50)]).find? (fun y => y.2 != 0) = some (m, 50) := by
  rw [List.find?_append]
  have e : p.find? (fun y => y.2 != 0) = none := by
    rw [List.find?_eq_none]
    intro y hy
    simp [h y hy]
  rw [e]
  rfl
theorem find_good (l : List S34) : (l.map (fun m => (m, (0 : Int)))).find? (fun y => y.2 != 0) = none := by
  rw [List.find?_eq_none]
  intro y hy
  obtain ⟨m, _, rfl⟩ := List.mem_map.1 hy
  simp
def outL (o : Option (List S34)) : (List S34) × Int := match o with | some l => (l, 0) | none => ([], 50)
theorem gather_d {ys : List (S34 × Int)} {o : Option (List S34)} (h : GoodY ys o) : gatherD ys = outL (o.map dictOf) := by
  unfold gatherD
  cases o with
  | none => obtain ⟨p, m, rfl, hp⟩ := h; rw [find_bad p m hp]; rfl
  | some l =>
    obtain rfl : ys = l.map (fun m => (m, 0)) := h
    rw [find_good]
    simp [outL, Function.comp_def]
/-- A field's members. -/
def rdTop (rd : ByteArray → Option (S34 × ByteArray)) (k : Nat) (s : ByteArray) : Option (List S34) := if (s.size : Int) > 4000 then none else rdAll rd k (trimSp s)
theorem trim_size (s : ByteArray) : (trimSp s).size ≤ s.size := by
  have := trim_len (L s)
  rw [size_L, size_L]
  show (L ⟨(Lib.trimB (L s) 32).toArray⟩).length ≤ _
  simpa [L] using this
theorem top_l {nx : ByteArray → Option Ten} {rd : ByteArray → Option (S34 × ByteArray)} (hl : Less rd) (hR : ∀ s, s.size ≤ 5000 → ∃ x, nx s = some x ∧ Told 5000 x (rd s)) (k : Nat) (hk : 5000 < k) (s : ByteArray) (hs : s.size ≤ 5000) :
    ∃ ys, membersF nx k s = some ys ∧ ys.length ≤ 1000000 ∧ (∀ y ∈ ys, y.1.f0.size ≤ 281474976710656) ∧ GoodY ys (rdTop rd k s) := by
  unfold membersF rdTop
  split
  · exact ⟨_, rfl, by simp, fun y hy => by rw [List.mem_singleton.1 hy]; exact Nat.zero_le _, [], _, rfl, fun y hy => by cases hy⟩
  · have h1 := trim_size s
    obtain ⟨ys, i1, i2, i3, i4⟩ := mems_l hl hR k (trimSp s) (by omega) (by omega)
    exact ⟨ys, i1, by omega, fun y hy => Nat.le_trans (i3 y hy) (by decide), i4⟩
theorem dict_f (s : ByteArray) (hs : s.size ≤ 5000) (k : Nat) (hk : 6000 < k) : sfield_Dict.f k s = some (outL ((rdTop rdKeyed k s).map dictOf)) := by
  obtain ⟨ys, h1, h2, h3, h4⟩ := top_l (nx := sfield_keyed.f k) less_k (fun s hs => by
    obtain ⟨x, hx, ht⟩ := keyed_s s (by omega) k (by omega)
    refine ⟨x, hx, ?_⟩
    cases hm : rdKeyed s with
    | none => rw [hm] at ht; exact ⟨ht.1, ht.2.1, Nat.le_trans ht.2.2 hs⟩
    | some y => rw [hm] at ht; exact ht) k (by omega) s hs
  unfold sfield_Dict.f
  rw [h1, Option.bind_some, if_pos ⟨h2, h3⟩, gather_d h4]
end Go.Proofs.YtjdbiicjfpgjkaaGreatDoor.Pl
/- Chapter 6: the document's reader of lists and dictionaries. -/
namespace Go.Proofs.YtjdbiicjfpgjkaaGreatDoor.Pl
open Go.RowKit Go.Proofs.YtjdbiicjfpgjkaaGreatDoor.Q Go.Proofs.YtjdbiicjfpgjkaaGreatDoor.Sf Go.Proofs.YtjdbiicjfpgjkaaGreatDoorW.PrintWords Go.Proofs.YtjdbiicjfpgjkaaGreatDoorW.PrintLast
set_option linter.unusedVariables false
set_option linter.unusedSimpArgs false
def Dist6 (l : List S34) : Prop := (l.map (·.f0)).Nodup
theorem idx_none {l : List S34} {s : ByteArray} (h : idxK l s = none) : ∀ q ∈ l, q.f0 ≠ s := by
  intro q hq e
  unfold idxK at h
  rw [List.findIdx?_eq_none_iff] at h
  have := h q.f0 (List.mem_map.2 ⟨q, hq, rfl⟩)
  simp [e] at this
theorem dist_put (l : List S34) (m : S34) (h : Dist6 l) : Dist6 (putM l m) := by
  unfold putM
  cases hi : idxK l m.f0 with
  | none =>
    have hn := idx_none hi
    unfold Dist6
    rw [List.map_append, List.nodup_append]
    refine ⟨h, by simp, ?_⟩
    intro a ha b hb
    obtain ⟨q, hq, rfl⟩ := List.mem_map.1 ha
    simp only [List.map_cons, List.map_nil, List.mem_singleton] at hb
    rw [hb]
    exact hn q hq
  | some i =>
    obtain ⟨hl, he⟩ := idxK_some hi
    unfold Dist6 at h ⊢
    have : (l.set i m).map (·.f0) = l.map (·.f0) := by
      rw [List.map_set, ← he]
      apply List.ext_getElem
      · simp
      · intro j h1 h2
        rw [List.getElem_set]
        split
        · rename_i h3; subst h3; simp
        · rfl
    show ((l.set i m).map (·.f0)).Nodup
    rw [this]
    exact h
end Go.Proofs.YtjdbiicjfpgjkaaGreatDoor.Pl
/- Chapter 6: members are the same as themselves. -/
namespace Go.Proofs.YtjdbiicjfpgjkaaGreatDoor.Pl
open Go.RowKit Go.Proofs.YtjdbiicjfpgjkaaGreatDoor.Q Go.Proofs.YtjdbiicjfpgjkaaGreatDoor.Sf Go.Proofs.YtjdbiicjfpgjkaaGreatDoorW.PrintWords Go.Proofs.YtjdbiicjfpgjkaaGreatDoorW.PrintLast
set_option linter.unusedVariables false
set_option linter.unusedSimpArgs false
theorem rd_item (l : List S31) (j : Nat) (h : j < l.length) : rd_T31 l (j : Int) = l[j] := by simp [rd_T31, List.getD_eq_getElem?_getD, h]
theorem rd_memb (l : List S34) (j : Nat) (h : j < l.length) : rd_T34 l (j : Int) = l[j] := by simp [rd_T34, List.getD_eq_getElem?_getD, h]
theorem params_refl (l : List S60) (hl : l.length ≤ 100000) (k : Nat) (hk : l.length < k) : glacisref05_SameParams.f k l l = some true := by
  unfold glacisref05_SameParams.f
  rw [if_pos rfl]
  exact same_loop l hl l.length 0 k (by omega) hk
theorem items_loop (l : List S31) (hl : l.length ≤ 20000) (hf : ∀ i ∈ l, i.f3.length ≤ 20000) : ∀ (m j k : Nat), j + m = l.length → m + 20001 < k → glacisref06_items.l0 k l l (j : Int) = some true
  | 0, j, k, hm, hk => by
    obtain ⟨k, rfl⟩ : ∃ k', k = k' + 1 := ⟨k - 1, by omega⟩
    rw [glacisref06_items.l0, if_neg (by omega)]
  | m + 1, j, k, hm, hk => by
    obtain ⟨k, rfl⟩ : ∃ k', k = k' + 1 := ⟨k - 1, by omega⟩
    have hj : j < l.length := by omega
    have h1 := hf _ (List.getElem_mem hj)
    rw [glacisref06_items.l0, if_pos (by omega), if_pos (by omega), if_pos (by omega), rd_item l j hj, same_refl _ (by omega) _ _ _ k (by omega), Option.bind_some, if_pos rfl, wrap_next j (by omega)]
    exact items_loop l hl hf m (j + 1) k (by omega) (by omega)
theorem items_refl (l : List S31) (hl : l.length ≤ 20000) (hf : ∀ i ∈ l, i.f3.length ≤ 20000) (k : Nat) (hk : 50000 < k) : glacisref06_items.f k l l = some true := by
  unfold glacisref06_items.f
  rw [if_pos rfl]
  exact items_loop l hl hf l.length 0 k (by omega) (by omega)
theorem membs_refl (l : List S34) (hl : l.length ≤ 20000) (hf : ∀ m ∈ l, Fit 20000 m) (k : Nat) (hk : 80000 < k) : glacisref06_Same.f k l l = some true := by
  unfold glacisref06_Same.f
  refine if_pos ⟨rfl, by omega, fun j hj => ?_⟩
  obtain ⟨h1, h2, h3, h4, h5⟩ := hf _ (List.getElem_mem hj)
  rw [rd_memb l j hj]
  unfold okM
  rw [same_refl _ (by omega) _ _ _ k (by omega), items_refl _ h2 h4 k (by omega), params_refl _ (by omega) k (by omega)]
  simp
theorem mem_put {l : List S34} {m q : S34} (h : q ∈ putM l m) : q = m ∨ q ∈ l := by
  unfold putM at h
  split at h
  · exact (List.mem_or_eq_of_mem_set h).symm
  · rcases List.mem_append.1 h with h | h
    · exact .inr h
    · exact .inl (List.mem_singleton.1 h)
theorem mem_dict : ∀ (l out : List S34) (q : S34), q ∈ l.foldl putM out → q ∈ l ∨ q ∈ out
  | [], _, _, h => .inr h
  | m :: l, out, q, h => by
    rw [List.foldl_cons] at h
    rcases mem_dict l _ q h with h | h
    · exact .inl (List.mem_cons_of_mem _ h)
    · rcases mem_put h with rfl | h
      · exact .inl List.mem_cons_self
      · exact .inr h
/-- What is read is the same as itself. -/
theorem top_same {rd : ByteArray → Option (S34 × ByteArray)} (hl : Less rd) (k : Nat) (s : ByteArray) (l : List S34) (h : rdTop rd k s = some l) : l.length ≤ 4000 ∧ ∀ m ∈ l, Fit 4000 m := by
  unfold rdTop at h
  split at h
  · cases h
  · have h1 := trim_size s
    obtain ⟨h2, h3⟩ := all_fit hl _ _ _ h
    exact ⟨by omega, fun m hm => (h3 m hm).mono (by omega)⟩
theorem dict_same (s : ByteArray) (hs : s.size ≤ 5000) (k : Nat) (hk : 80000 < k) : ∃ l e, sfield_Dict.f k s = some (l, e) ∧ glacisref06_Same.f k l l = some true := by
  refine ⟨_, _, dict_f s hs k (by omega), ?_⟩
  cases hr : rdTop rdKeyed k s with
  | none => exact membs_refl [] (by simp) (fun m hm => by cases hm) k hk
  | some l =>
    obtain ⟨h1, h2⟩ := top_same less_k k s l hr
    have h3 := dictOf_len l
    refine membs_refl (dictOf l) (by omega) (fun m hm => ?_) k hk
    rcases mem_dict l [] m hm with h | h
    · exact (h2 m h).mono (by omega)
    · cases h
end Go.Proofs.YtjdbiicjfpgjkaaGreatDoor.Pl
/- Chapter 6: what text tells what members; such a text is read as them, and what is read is such a text. -/
namespace Go.Proofs.YtjdbiicjfpgjkaaGreatDoor.Pl
open Go.RowKit Go.Proofs.YtjdbiicjfpgjkaaGreatDoor.Q Go.Proofs.YtjdbiicjfpgjkaaGreatDoor.Sf Go.Proofs.YtjdbiicjfpgjkaaGreatDoorW.PrintWords Go.Proofs.YtjdbiicjfpgjkaaGreatDoorW.PrintLast
set_option linter.unusedVariables false
set_option linter.unusedSimpArgs false
/-- What may stand behind an item's text. -/
def Stop (r : List UInt8) : Prop := ∀ c r', r = c :: r' → Endc c = true ∧ c ≠ 59
theorem Stop.nil : Stop [] := fun _ _ h => by cases h
theorem Stop.cons {c : UInt8} (h : Endc c = true) (h2 : c ≠ 59) (r : List UInt8) : Stop (c :: r) := fun _ _ e => by cases e; exact ⟨h, h2⟩
theorem Stop.ends {r : List UInt8} (h : Stop r) : Ends r := fun c r' e => (h c r' e).1
theorem pt_reads {u : List UInt8} {l l1 : List S60} (h : PT u l l1) (r : List UInt8) (hr : Stop r) : ∀ (d : Nat) (s : ByteArray), u.length < d → L s = u ++ r → pF d s l = some (l1, B r) := by
  induction h with
  | nil l =>
    intro d s hd e
    obtain ⟨d, rfl⟩ : ∃ d', d = d' + 1 := ⟨d - 1, by simp at hd; omega⟩
    have e0 : L s = r := e
    have a : atF s 59 = false := by
      cases hu : r with
      | nil => exact atF_nil (e0.trans hu) 59
      | cons x r' => rw [atF_cons (e0.trans hu)]; exact decide_eq_false (fun k => (hr x r' hu).2 (u_eq k))
    rw [pF, a, if_neg (by decide)]
    have : s = B r := L_inj (by rw [e0, L_B])
    rw [this]
  | flag b k u l l1 hb hk h ih =>
    intro d s hd e
    obtain ⟨d, rfl⟩ : ∃ d', d = d' + 1 := ⟨d - 1, by simp at hd; omega⟩
    have e0 : L s = 59 :: (b ++ (k ++ (u ++ r))) := by rw [e]; simp
    have e1 : L (tl s) = b ++ (k ++ (u ++ r)) := by rw [L_tl, e0]; rfl
    have he : Ends (u ++ r) := h.ends.app hr.ends
    rw [pF, atF_cons e0, if_pos (by decide), key_read k (u ++ r) hk (he.not keyU_59) _ (spaces b k _ hb hk _ e1)]
    simp only [Option.bind_some]
    have a : atF (B (u ++ r)) 61 = false := by
      cases hu : u ++ r with
      | nil => exact atF_nil (L_B []) 61
      | cons x u' => rw [atF_cons (L_B (x :: u'))]; exact decide_eq_false (end_ne x (he x u' hu)).2
    rw [a, if_neg (by decide)]
    exact ih d (B (u ++ r)) (by simp at hd; omega) (L_B _)
  | val b k w u n i t l l1 hb hk hv h ih =>
    intro d s hd e
    obtain ⟨d, rfl⟩ : ∃ d', d = d' + 1 := ⟨d - 1, by simp at hd; omega⟩
    have e0 : L s = 59 :: (b ++ (k ++ (61 :: (w ++ (u ++ r))))) := by rw [e]; simp
    have e1 : L (tl s) = b ++ (k ++ (61 :: (w ++ (u ++ r)))) := by rw [L_tl, e0]; rfl
    rw [pF, atF_cons e0, if_pos (by decide), key_read k (61 :: (w ++ (u ++ r))) hk (fun c r' h => by cases h; decide +kernel) _ (spaces b k _ hb hk _ e1)]
    simp only [Option.bind_some]
    rw [atF_cons (L_B (61 :: (w ++ (u ++ r)))), if_pos (by decide), value_read hv (u ++ r) (h.ends.app hr.ends) _ (by rw [L_tl, L_B]; rfl)]
    simp only [Option.bind_some]
    exact ih d (B (u ++ r)) (by simp at hd; omega) (L_B _)
theorem params_reads {u : List UInt8} {l : List S60} (h : PT u [] l) (r : List UInt8) (hr : Stop r) (s : ByteArray) (e : L s = u ++ r) : rdParams s = some (l, B r) := by
  unfold rdParams
  exact pt_reads h r hr _ s (by rw [size_L, e, List.length_append]; omega) e
theorem next_reads {u : List UInt8} {n i : Int} {t : List UInt8} {l : List S60} (h : IT u n i t l) (r : List UInt8) (hr : Stop r) (s : ByteArray) (e : L s = u ++ r) : rdNext s = some ((n, i, B t), l, B r) := by
  obtain ⟨a, b, rfl, hv, hp⟩ := h
  unfold rdNext
  rw [value_read hv (b ++ r) (hp.ends.app hr.ends) s (by rw [e]; simp)]
  simp only [Option.bind_some]
  rw [params_reads hp r hr (B (b ++ r)) (L_B _)]
  rfl
def Beg (c : UInt8) : Bool := !(Endc c) && !(decide (c = 40))
theorem beg_all {P : UInt8 → Bool} (h : (List.range 256).all (fun n => !(P (UInt8.ofNat n)) || Beg (UInt8.ofNat n)) = true) (c : UInt8) (hc : P c = true) : Beg c = true := by
  have := allU (fun c => !(P c) || Beg c) h c
  simpa [hc] using this
theorem beg_dg (c : UInt8) (h : dgU c = true) : Beg c = true := beg_all (P := dgU) (by decide +kernel) c h
theorem beg_to (c : UInt8) (h : toU c = true) : Beg c = true := beg_all (P := toU) (by decide +kernel) c h
theorem beg_ke (c : UInt8) (h : keU c = true) : Beg c = true := beg_all (P := keU) (by decide +kernel) c h
theorem vt_head {u : List UInt8} {n i : Int} {t : List UInt8} (h : VT u n i t) : ∃ c u', u = c :: u' ∧ Beg c = true := by
  cases h with
  | int sg w h0 h1 h2 h3 =>
    rcases h0 with rfl | rfl
    · obtain ⟨c, w', rfl⟩ := List.exists_cons_of_ne_nil h1
      exact ⟨c, w', rfl, beg_dg c (h2 c (List.mem_cons_self ..))⟩
    · exact ⟨45, w, rfl, by decide⟩
  | dec sg w p h0 h1 h2 h3 h4 h5 h6 =>
    rcases h0 with rfl | rfl
    · obtain ⟨c, w', rfl⟩ := List.exists_cons_of_ne_nil h1
      exact ⟨c, w' ++ 46 :: p, rfl, beg_dg c (h2 c (List.mem_cons_self ..))⟩
    · exact ⟨45, w ++ 46 :: p, rfl, by decide⟩
  | tok c w h0 h1 => exact ⟨c, w, rfl, beg_to c (h1 c (List.mem_cons_self ..))⟩
  | quo q t h => exact ⟨34, q, rfl, by decide⟩
  | byt h => exact ⟨58, _, rfl, by decide⟩
  | one => exact ⟨63, _, rfl, by decide⟩
  | zero => exact ⟨63, _, rfl, by decide⟩
theorem IT.head {u : List UInt8} {n i : Int} {t : List UInt8} {l : List S60} (h : IT u n i t l) : ∃ c u', u = c :: u' ∧ Beg c = true := by
  obtain ⟨a, b, rfl, hv, hp⟩ := h
  obtain ⟨c, a', rfl, hc⟩ := vt_head hv
  exact ⟨c, a' ++ b, rfl, hc⟩
theorem IT.last {u : List UInt8} {n i : Int} {t : List UInt8} {l : List S60} (h : IT u n i t l) : Last0 u := by
  obtain ⟨a, b, rfl, hv, hp⟩ := h
  rcases pt_last hp with rfl | k
  · simpa using vt_last hv
  · exact k.cons _
theorem KT.head {k : List UInt8} (h : KT k) : ∃ c w, k = c :: w ∧ Beg c = true := by
  obtain ⟨c, w, rfl, h1, h2⟩ := h
  exact ⟨c, w, rfl, beg_ke c (h2 c (List.mem_cons_self ..))⟩
theorem beg_ne {c : UInt8} (h : Beg c = true) : c ≠ 32 ∧ c ≠ 9 ∧ c ≠ 41 ∧ c ≠ 40 ∧ c ≠ 44 ∧ c ≠ 59 := by
  refine ⟨?_, ?_, ?_, ?_, ?_, ?_⟩ <;> (rintro rfl; revert h; decide)
def ITm (u : List UInt8) (x : S31) : Prop := IT u x.f0 x.f1 (L x.f2) x.f3
theorem itm_eta (x : S31) : itm (x.f0, x.f1, B (L x.f2)) x.f3 = x := by unfold itm; rw [B_L]
/-- What text, behind a bracket, tells what more items, and what parameters. -/
inductive NT : List UInt8 → List S31 → List S31 → List S60 → Prop
  | shut (b p : List UInt8) (its : List S31) (l : List S60) (hb : ∀ c ∈ b, c = 32) (hp : PT p [] l) : NT (b ++ 41 :: p) its its l
  | item (b u v : List UInt8) (x : S31) (its its' : List S31) (l : List S60) (hb : ∀ c ∈ b, c = 32) (h1 : its ≠ [] → b ≠ []) (hu : ITm u x) (h : NT v (its ++ [x]) its' l) : NT (b ++ (u ++ v)) its its' l
theorem NT.stop {v : List UInt8} {its its' : List S31} {l : List S60} (h : NT v its its' l) (hi : its ≠ []) (r : List UInt8) : Stop (v ++ r) := by
  cases h with
  | shut b p _ _ hb hp =>
    cases b with
    | nil => exact Stop.cons (by decide) (by decide) _
    | cons c b => rw [hb c (List.mem_cons_self ..)]; exact Stop.cons (by decide) (by decide) _
  | item b u v x _ _ _ hb h1 hu h =>
    cases b with
    | nil => exact absurd rfl (h1 hi)
    | cons c b => rw [hb c (List.mem_cons_self ..)]; exact Stop.cons (by decide) (by decide) _
theorem NT.last {v : List UInt8} {its its' : List S31} {l : List S60} (h : NT v its its' l) : Last0 v := by
  induction h with
  | shut b p its l hb hp =>
    rcases pt_last hp with rfl | k
    · exact ⟨b, 41, rfl, by decide⟩
    · have := k.cons (b ++ [41]); simpa using this
  | item b u v x its its' l hb h1 hu h ih => have := ih.cons (b ++ u); simpa using this
theorem drp_sp {s : ByteArray} (b : List UInt8) (c : UInt8) (r : List UInt8) (hb : ∀ x ∈ b, x = 32) (hc : c ≠ 32) (e : L s = b ++ c :: r) : L (drpB spP s) = c :: r := by
  rw [L_drp, e]
  refine (takeW_app (fun c : UInt8 => spP c.toNat) b (c :: r) (fun x hx => by rw [hb x hx]; decide) (fun c' r' h => ?_)).2
  obtain ⟨rfl, _⟩ := List.cons.inj h
  unfold spP
  rw [beq_eq_false_iff_ne]
  intro k
  exact hc (u_eq k)
theorem at_not {s : ByteArray} {c : UInt8} {r : List UInt8} (e : L s = c :: r) (n : UInt8) (h : c ≠ n) : ¬ atF s (n.toNat : Int) = true := by
  rw [atF_cons e]
  intro k
  exact h (u_eq (of_decide_eq_true k))
theorem inner_reads {u : List UInt8} {its its' : List S31} {l : List S60} (h : NT u its its' l) (r : List UInt8) (hr : Stop r) : ∀ (d : Nat) (s : ByteArray), u.length ≤ d → L s = u ++ r → rdInner d s its = some ((its', l), B r) := by
  induction h with
  | shut b p its l hb hp =>
    intro d s hd e
    obtain ⟨d, rfl⟩ : ∃ d', d = d' + 1 := ⟨d - 1, by simp at hd; omega⟩
    have e1 : L (drpB spP s) = 41 :: (p ++ r) := drp_sp b 41 (p ++ r) hb (by decide) (by rw [e]; simp)
    rw [rdInner, if_pos (by rw [atF_cons e1]; rfl), params_reads hp r hr _ (by rw [L_tl, e1]; rfl)]
    rfl
  | item b u v x its its' l hb h1 hu h ih =>
    intro d s hd e
    obtain ⟨c, u', hcu, hc⟩ := IT.head hu
    have hne := beg_ne hc
    obtain ⟨d, rfl⟩ : ∃ d', d = d' + 1 := ⟨d - 1, by rw [hcu] at hd; simp at hd; omega⟩
    have e0 : L s = b ++ c :: (u' ++ (v ++ r)) := by rw [e, hcu]; simp
    have e1 : L (drpB spP s) = c :: (u' ++ (v ++ r)) := drp_sp b c _ hb hne.1 e0
    have e2 : L (drpB spP s) = u ++ (v ++ r) := by rw [e1, hcu]; rfl
    rw [rdInner, if_neg (show ¬ atF (drpB spP s) 41 = true from at_not e1 41 hne.2.2.1), next_reads hu (v ++ r) (h.stop (by simp) r) _ e2, Option.bind_some, itm_eta, if_neg]
    · exact ih d (B (v ++ r)) (by rw [hcu] at hd; simp only [List.length_append, List.length_cons] at hd; omega) (L_B _)
    · rintro ⟨hi, hs⟩
      rw [hs, e0] at e1
      have := congrArg List.length e1
      have hb2 : 0 < b.length := List.length_pos_iff.2 (h1 hi)
      simp only [List.length_append, List.length_cons] at this
      omega
theorem sp_split (s : ByteArray) : ∃ b, L s = b ++ L (drpB spP s) ∧ ∀ c ∈ b, c = 32 := by
  refine ⟨(L s).takeWhile (fun c : UInt8 => spP c.toNat), ?_, ?_⟩
  · rw [L_drp]; exact (span_split _ _).symm
  · intro c hc
    have := all_of_take (q := fun c : UInt8 => spP c.toNat) (L s) c hc
    unfold spP at this
    exact u_eq (beq_iff_eq.1 this)
theorem inner_inv : ∀ (d : Nat) (s : ByteArray) (its its' : List S31) (l : List S60) (r : ByteArray), rdInner d s its = some ((its', l), r) → ∃ u, L s = u ++ L r ∧ NT u its its' l
  | 0, _, _, _, _, _, h => by cases h
  | d + 1, s, its, its', l, r, h => by
    obtain ⟨b, hb1, hb2⟩ := sp_split s
    rw [rdInner] at h
    split at h
    · rename_i ha
      obtain ⟨⟨l2, t⟩, hp, h⟩ := Option.bind_eq_some_iff.1 h
      obtain ⟨h1, rfl⟩ := Prod.mk.inj (Option.some.inj h)
      obtain ⟨rfl, rfl⟩ := Prod.mk.inj h1
      obtain ⟨c, t, e1, e2⟩ := atF_ex ha
      obtain rfl : c = 41 := u_eq e2
      unfold rdParams at hp
      obtain ⟨p, p1, p2, _⟩ := pt_inv _ _ _ _ _ hp
      rw [L_tl, e1] at p1
      have p1 : t = p ++ _ := p1
      refine ⟨b ++ 41 :: p, ?_, NT.shut b p _ _ hb2 p2⟩
      rw [hb1, e1, p1]
      simp
    · obtain ⟨⟨v, l2, t⟩, hp, h⟩ := Option.bind_eq_some_iff.1 h
      split at h
      · cases h
      · rename_i hn
        obtain ⟨u, u1, u2, _⟩ := next_inv hp
        obtain ⟨w, w1, w2⟩ := inner_inv d _ _ _ _ _ h
        dsimp only at u1 w1 w2
        refine ⟨b ++ (u ++ w), ?_, NT.item b u w (itm v l2) _ _ _ hb2 (fun hi hb => hn ⟨hi, ?_⟩) u2 w2⟩
        · rw [hb1, u1, w1]; simp
        · rw [hb, List.nil_append] at hb1
          exact L_inj hb1.symm
/-- What text tells what member of a list. -/
inductive MT : List UInt8 → S34 → Prop
  | inn (u : List UInt8) (its : List S31) (l : List S60) (h : NT u [] its l) : MT (40 :: u) (mIn its l)
  | itm (u : List UInt8) (x : S31) (h : ITm u x) : MT u (mIt x)
/-- What text tells what member of a dictionary. -/
inductive KM : List UInt8 → S34 → Prop
  | eq (k u : List UInt8) (m : S34) (hk : KT k) (h : MT u m) : KM (k ++ 61 :: u) { m with f0 := B k }
  | flag (k p : List UInt8) (l : List S60) (hk : KT k) (hp : PT p [] l) : KM (k ++ p) ⟨B k, false, ⟨6, 1, ⟨#[]⟩, l⟩, [], []⟩
theorem member_reads {u : List UInt8} {m : S34} (h : MT u m) (r : List UInt8) (hr : Stop r) (s : ByteArray) (e : L s = u ++ r) : rdMember s = some (m, B r) := by
  unfold rdMember
  cases h with
  | inn u its l h =>
    have e1 : L s = 40 :: (u ++ r) := e
    rw [if_pos (by rw [atF_cons e1]; rfl), inner_reads h r hr s.size (tl s) (by rw [size_L, e1]; simp; omega) (by rw [L_tl, e1]; rfl)]
    rfl
  | itm _ x h =>
    obtain ⟨c, u', hcu, hc⟩ := IT.head h
    have e1 : L s = c :: (u' ++ r) := by rw [e, hcu]; rfl
    rw [if_neg (show ¬ atF s 40 = true from at_not e1 40 (beg_ne hc).2.2.2.1), next_reads h r hr s e, Option.bind_some, itm_eta]
theorem member_inv {s : ByteArray} {m : S34} {r : ByteArray} (h : rdMember s = some (m, r)) : ∃ u, L s = u ++ L r ∧ MT u m := by
  unfold rdMember at h
  split at h
  · rename_i ha
    obtain ⟨⟨⟨its, l⟩, t⟩, hp, h⟩ := Option.bind_eq_some_iff.1 h
    obtain ⟨rfl, rfl⟩ := Prod.mk.inj (Option.some.inj h)
    obtain ⟨c, t, e1, e2⟩ := atF_ex ha
    obtain rfl : c = 40 := u_eq e2
    obtain ⟨u, u1, u2⟩ := inner_inv _ _ _ _ _ _ hp
    rw [L_tl, e1] at u1
    have u1 : t = u ++ _ := u1
    exact ⟨40 :: u, by rw [e1, u1]; rfl, MT.inn u _ _ u2⟩
  · obtain ⟨⟨v, l, t⟩, hp, h⟩ := Option.bind_eq_some_iff.1 h
    obtain ⟨rfl, rfl⟩ := Prod.mk.inj (Option.some.inj h)
    obtain ⟨u, u1, u2, _⟩ := next_inv hp
    exact ⟨u, u1, MT.itm u (itm v l) u2⟩
theorem keyed_reads {u : List UInt8} {m : S34} (h : KM u m) (r : List UInt8) (hr : Stop r) (s : ByteArray) (e : L s = u ++ r) : rdKeyed s = some (m, B r) := by
  unfold rdKeyed
  cases h with
  | eq k u m hk h =>
    rw [key_read k (61 :: (u ++ r)) hk (fun c r' h => by cases h; decide +kernel) s (by rw [e]; simp), Option.bind_some]
    dsimp only
    rw [if_pos (by rw [atF_cons (L_B (61 :: (u ++ r)))]; rfl), member_reads h r hr (tl (B (61 :: (u ++ r)))) (by rw [L_tl, L_B]; rfl)]
    rfl
  | flag k p l hk hp =>
    have he : Ends (p ++ r) := hp.ends.app hr.ends
    rw [key_read k (p ++ r) hk (he.not keyU_59) s (by rw [e]; simp), Option.bind_some]
    dsimp only
    have a : ¬ atF (B (p ++ r)) 61 = true := by
      cases hu : p ++ r with
      | nil => rw [atF_nil (L_B [])]; decide
      | cons x u' => rw [atF_cons (L_B (x :: u')), decide_eq_false (end_ne x (he x u' hu)).2]; decide
    rw [if_neg a, params_reads hp r hr (B (p ++ r)) (L_B _)]
    rfl
theorem keyed_inv {s : ByteArray} {m : S34} {r : ByteArray} (h : rdKeyed s = some (m, r)) : ∃ u, L s = u ++ L r ∧ KM u m := by
  unfold rdKeyed at h
  obtain ⟨⟨k, t⟩, hk, h⟩ := Option.bind_eq_some_iff.1 h
  obtain ⟨k1, k2⟩ := key_inv hk
  split at h
  · rename_i ha
    obtain ⟨⟨m', r'⟩, hm, h⟩ := Option.bind_eq_some_iff.1 h
    obtain ⟨rfl, rfl⟩ := Prod.mk.inj (Option.some.inj h)
    obtain ⟨c, t2, e1, e2⟩ := atF_ex ha
    obtain rfl : c = 61 := u_eq e2
    obtain ⟨u, u1, u2⟩ := member_inv hm
    rw [L_tl, e1] at u1
    have u1 : t2 = u ++ _ := u1
    refine ⟨L k ++ 61 :: u, by rw [k1, e1, u1]; simp, ?_⟩
    have := KM.eq (L k) u m' k2 u2
    rwa [B_L] at this
  · obtain ⟨⟨l, t'⟩, hp, h⟩ := Option.bind_eq_some_iff.1 h
    obtain ⟨rfl, rfl⟩ := Prod.mk.inj (Option.some.inj h)
    unfold rdParams at hp
    obtain ⟨p, p1, p2, _⟩ := pt_inv _ _ _ _ _ hp
    refine ⟨L k ++ p, by rw [k1, p1]; simp, ?_⟩
    have := KM.flag (L k) p l k2 p2
    rwa [B_L] at this
theorem ws_not {c : UInt8} (h1 : c ≠ 32) (h2 : c ≠ 9) : wsP c.toNat = false := by
  unfold wsP
  rw [Bool.or_eq_false_iff, beq_eq_false_iff_ne, beq_eq_false_iff_ne]
  exact ⟨fun k => h1 (u_eq k), fun k => h2 (u_eq k)⟩
theorem MT.last {u : List UInt8} {m : S34} (h : MT u m) : Last0 u := by
  cases h with
  | inn u its l h => exact h.last.cons [40]
  | itm _ x h => exact IT.last h
theorem KM.head {u : List UInt8} {m : S34} (h : KM u m) : ∃ c u', u = c :: u' ∧ wsP c.toNat = false ∧ c ≠ 32 := by
  cases h with
  | eq k u m hk h =>
    obtain ⟨c, w, rfl, hc⟩ := hk.head
    exact ⟨c, w ++ 61 :: u, rfl, ws_not (beg_ne hc).1 (beg_ne hc).2.1, (beg_ne hc).1⟩
  | flag k p l hk hp =>
    obtain ⟨c, w, rfl, hc⟩ := hk.head
    exact ⟨c, w ++ p, rfl, ws_not (beg_ne hc).1 (beg_ne hc).2.1, (beg_ne hc).1⟩
theorem KM.last {u : List UInt8} {m : S34} (h : KM u m) : Last0 u := by
  cases h with
  | eq k u m hk h => have := h.last.cons (k ++ [61]); simpa using this
  | flag k p l hk hp =>
    rcases pt_last hp with rfl | q
    · simpa using kt_last hk
    · exact q.cons k
/-- A reader, and what text tells what member. -/
structure Tellsm (rd : ByteArray → Option (S34 × ByteArray)) (R : List UInt8 → S34 → Prop) : Prop where
  reads : ∀ u m, R u m → ∀ r, Stop r → ∀ s, L s = u ++ r → rd s = some (m, B r)
  inv : ∀ s m r, rd s = some (m, r) → ∃ u, L s = u ++ L r ∧ R u m
  head : ∀ u m, R u m → ∃ c u', u = c :: u' ∧ wsP c.toNat = false ∧ c ≠ 32
  last : ∀ u m, R u m → Last0 u
theorem tells_k : Tellsm rdKeyed KM := ⟨fun _ _ h r hr s e => keyed_reads h r hr s e, fun _ _ _ h => keyed_inv h, fun _ _ h => h.head, fun _ _ h => h.last⟩
def Ws (w : List UInt8) : Prop := ∀ c ∈ w, wsP c.toNat = true
theorem Ws.app {a b : List UInt8} (ha : Ws a) (hb : Ws b) : Ws (a ++ b) := fun c hc => (List.mem_append.1 hc).elim (ha c) (hb c)
theorem Ws.nil : Ws [] := fun _ h => by cases h
theorem ws_end {c : UInt8} (h : wsP c.toNat = true) : Endc c = true ∧ c ≠ 59 := by
  have := allU (fun c => !(wsP c.toNat) || (Endc c && decide (c ≠ 59))) (by decide +kernel) c
  simpa [h] using this
theorem Ws.stop {w : List UInt8} (h : Ws w) {r : List UInt8} (hr : Stop r) : Stop (w ++ r) := by
  cases w with
  | nil => exact hr
  | cons c w => intro c' r' e; obtain ⟨rfl, _⟩ := List.cons.inj e; exact ws_end (h c (List.mem_cons_self ..))
/-- What text tells what members. -/
inductive LT (R : List UInt8 → S34 → Prop) : List UInt8 → List S34 → Prop
  | one (u : List UInt8) (m : S34) (w : List UInt8) (h : R u m) (hw : Ws w) : LT R (u ++ w) [m]
  | more (u : List UInt8) (m : S34) (w1 w2 v : List UInt8) (ms : List S34) (h : R u m) (hw1 : Ws w1) (hw2 : Ws w2) (hv : LT R v ms) : LT R (u ++ (w1 ++ (44 :: (w2 ++ v)))) (m :: ms)
variable {rd : ByteArray → Option (S34 × ByteArray)} {R : List UInt8 → S34 → Prop}
theorem LT.head (hT : Tellsm rd R) {u : List UInt8} {ms : List S34} (h : LT R u ms) : ∃ c u', u = c :: u' ∧ wsP c.toNat = false ∧ c ≠ 32 := by
  cases h with
  | one u m w h hw => obtain ⟨c, u', rfl, hc⟩ := hT.head _ _ h; exact ⟨c, _, rfl, hc⟩
  | more u m w1 w2 v ms h => obtain ⟨c, u', rfl, hc⟩ := hT.head _ _ h; exact ⟨c, _, rfl, hc⟩
theorem LT.app {a b : List UInt8} {la lb : List S34} (h : LT R a la) (hb : LT R b lb) (w1 w2 : List UInt8) (h1 : Ws w1) (h2 : Ws w2) : LT R (a ++ (w1 ++ (44 :: (w2 ++ b)))) (la ++ lb) := by
  induction h with
  | one u m w h hw =>
    have := LT.more u m (w ++ w1) w2 b lb h (hw.app h1) h2 hb
    simpa using this
  | more u m x1 x2 v ms h hx1 hx2 hv ih =>
    have := LT.more u m x1 x2 _ _ h hx1 hx2 ih
    simpa using this
theorem drp_ws {s : ByteArray} (w r : List UInt8) (hw : Ws w) (hr : ∀ c r', r = c :: r' → wsP c.toNat = false) (e : L s = w ++ r) : L (drpB wsP s) = r := by
  rw [L_drp, e]
  exact (takeW_app (fun c : UInt8 => wsP c.toNat) w r hw hr).2
theorem ws_split (s : ByteArray) : ∃ w, L s = w ++ L (drpB wsP s) ∧ Ws w := by
  refine ⟨(L s).takeWhile (fun c : UInt8 => wsP c.toNat), ?_, fun c hc => all_of_take (q := fun c : UInt8 => wsP c.toNat) (L s) c hc⟩
  rw [L_drp]; exact (span_split _ _).symm
theorem all_reads (hT : Tellsm rd R) {u : List UInt8} {ms : List S34} (h : LT R u ms) : ∀ (d : Nat) (s : ByteArray), u.length < d → L s = u → rdAll rd d s = some ms := by
  induction h with
  | one u m w h hw =>
    intro d s hd e
    obtain ⟨d, rfl⟩ : ∃ d', d = d' + 1 := ⟨d - 1, by omega⟩
    obtain ⟨c, u', hcu, hc⟩ := hT.head _ _ h
    have ea : L (aftR (B w)) = [] := drp_ws w [] hw (fun c r' e => by cases e) (by rw [L_B]; simp)
    rw [rdAll, if_neg (by rw [L_toList, e, hcu]; simp), hT.reads _ _ h w (by have := hw.stop Stop.nil; simpa using this) s e, Option.bind_some, if_pos (by rw [L_toList]; exact ea)]
  | more u m w1 w2 v ms h hw1 hw2 hv ih =>
    intro d s hd e
    obtain ⟨d, rfl⟩ : ∃ d', d = d' + 1 := ⟨d - 1, by omega⟩
    obtain ⟨c, u', hcu, hc⟩ := hT.head _ _ h
    obtain ⟨c2, v', hcv, hc2, _⟩ := LT.head hT hv
    have ea : L (aftR (B (w1 ++ (44 :: (w2 ++ v))))) = 44 :: (w2 ++ v) := drp_ws w1 _ hw1 (fun c r' e => by cases e; decide) (L_B _)
    have en : L (nxtR (B (w1 ++ (44 :: (w2 ++ v))))) = v := by
      refine drp_ws w2 v hw2 (fun c r' e => ?_) ?_
      · rw [hcv] at e; obtain ⟨rfl, _⟩ := List.cons.inj e; exact hc2
      · rw [L_tl]; show (L (aftR _)).tail = _; rw [ea]; rfl
    rw [rdAll, if_neg (by rw [L_toList, e, hcu]; simp), hT.reads _ _ h (w1 ++ (44 :: (w2 ++ v))) (hw1.stop (Stop.cons (by decide) (by decide) _)) s e, Option.bind_some,
      if_neg (by rw [L_toList, ea]; simp), if_pos ⟨by rw [atF_cons ea]; rfl, by rw [L_toList, en, hcv]; simp⟩,
      ih d _ (by simp only [List.length_append, List.length_cons] at hd; omega) en, Option.bind_some]
theorem all_inv (hT : Tellsm rd R) : ∀ (d : Nat) (s : ByteArray) (l : List S34), rdAll rd d s = some l → (L s = [] ∧ l = []) ∨ LT R (L s) l
  | 0, _, _, h => by cases h
  | d + 1, s, l, h => by
    rw [rdAll] at h
    split at h
    · rename_i h0
      obtain rfl := Option.some.inj h
      exact .inl ⟨by rw [← L_toList]; exact h0, rfl⟩
    · obtain ⟨⟨m, r⟩, hx, h⟩ := Option.bind_eq_some_iff.1 h
      obtain ⟨u, u1, u2⟩ := hT.inv _ _ _ hx
      obtain ⟨w1, w11, w12⟩ := ws_split r
      split at h
      · rename_i ha
        obtain rfl := Option.some.inj h
        have e0 : L (drpB wsP r) = [] := by rw [← L_toList]; exact ha
        rw [e0, List.append_nil] at w11
        refine .inr ?_
        rw [u1, w11]
        exact LT.one u m w1 u2 w12
      · split at h
        · rename_i hc
          obtain ⟨l', hl', h⟩ := Option.bind_eq_some_iff.1 h
          obtain rfl := Option.some.inj h
          obtain ⟨c, t, e1, e2⟩ := atF_ex hc.1
          obtain rfl : c = 44 := u_eq e2
          have e1 : L (drpB wsP r) = 44 :: t := e1
          obtain ⟨w2, w21, w22⟩ := ws_split (tl (drpB wsP r))
          rcases all_inv hT d _ _ hl' with ⟨h0, _⟩ | hv
          · exact absurd (by rw [L_toList]; exact h0) hc.2
          · refine .inr ?_
            have e3 : t = w2 ++ L (nxtR r) := by rw [← show L (tl (drpB wsP r)) = t from by rw [L_tl, e1]; rfl]; exact w21
            rw [u1, w11, e1, e3]
            exact LT.more u m w1 w2 _ l' u2 w12 w22 hv
        · cases h
theorem trim_L (s : ByteArray) : L (trimSp s) = Lib.trimB (L s) 32 := by unfold trimSp L; simp
def Bl (b : List UInt8) : Prop := ∀ c ∈ b, c = 32
theorem Bl.ws {b : List UInt8} (h : Bl b) : Ws b := fun c hc => by rw [h c hc]; decide
theorem drop_bl (b u : List UInt8) (hb : Bl b) : (b ++ u).dropWhile (fun c => c == 32) = u.dropWhile (fun c => c == 32) := by
  induction b with
  | nil => rfl
  | cons c b ih =>
    rw [List.cons_append, List.dropWhile_cons, if_pos (by rw [hb c (List.mem_cons_self ..)]; decide)]
    exact ih (fun x hx => hb x (List.mem_cons_of_mem _ hx))
theorem drop_ex (u : List UInt8) : ∃ b, u = b ++ u.dropWhile (fun c => c == 32) ∧ Bl b :=
  ⟨u.takeWhile (fun c => c == 32), (List.takeWhile_append_dropWhile).symm, fun c hc => by simpa using all_of_take (q := fun c => c == 32) u c hc⟩
theorem trim_ex (u : List UInt8) : ∃ a b, u = a ++ (Lib.trimB u 32 ++ b) ∧ Bl a ∧ Bl b := by
  obtain ⟨b, h1, h2⟩ := drop_ex u.reverse
  have e1 : u = (u.reverse.dropWhile (fun c => c == 32)).reverse ++ b.reverse := by
    have := congrArg List.reverse h1
    rw [List.reverse_reverse, List.reverse_append] at this
    exact this
  obtain ⟨a, h3, h4⟩ := drop_ex (u.reverse.dropWhile (fun c => c == 32)).reverse
  refine ⟨a, b.reverse, ?_, h4, fun c hc => h2 c (List.mem_reverse.1 hc)⟩
  rw [← List.append_assoc]
  show u = (a ++ (u.reverse.dropWhile (fun c => c == 32)).reverse.dropWhile (fun c => c == 32)) ++ b.reverse
  rw [← h3]
  exact e1
theorem trim_mid (a u b : List UInt8) (ha : Bl a) (hb : Bl b) (hu : ∃ c u', u = c :: u' ∧ c ≠ 32) (hl : Last0 u) : Lib.trimB (a ++ (u ++ b)) 32 = u := by
  have h1 : Lib.trimRightB (a ++ (u ++ b)) 32 = a ++ u := by
    obtain ⟨w, x, rfl, hx⟩ := hl
    unfold Lib.trimRightB
    rw [List.reverse_append, List.reverse_append, List.append_assoc]
    have := drop_bl b.reverse ((w ++ [x]).reverse ++ a.reverse) (fun c hc => hb c (List.mem_reverse.1 hc))
    rw [show (fun c : UInt8 => c == 32) = (· == 32) from rfl] at this
    rw [this, List.reverse_append, List.reverse_singleton, List.singleton_append, List.cons_append, List.dropWhile_cons, if_neg (by simpa using hx)]
    simp
  unfold Lib.trimB
  rw [h1]
  unfold Lib.trimLeftB
  have := drop_bl a u ha
  rw [show (fun c : UInt8 => c == 32) = (· == 32) from rfl] at this
  obtain ⟨c, u', rfl, hc⟩ := hu
  rw [this, List.dropWhile_cons, if_neg (by simpa using hc)]
theorem trim_last (u : List UInt8) (h : Lib.trimB u 32 ≠ []) : Last0 (Lib.trimB u 32) := by
  unfold Lib.trimB at h ⊢
  have hl : Lib.trimRightB u 32 ≠ [] := by
    intro e
    rw [e] at h
    exact h rfl
  have h2 : Last0 (Lib.trimRightB u 32) := by
    unfold Lib.trimRightB at hl ⊢
    have hne : u.reverse.dropWhile (· == 32) ≠ [] := fun e => hl (by rw [e]; rfl)
    obtain ⟨c, r, hcr⟩ := List.exists_cons_of_ne_nil hne
    rw [hcr]
    exact ⟨r.reverse, c, by simp, fun e => by have := dropW_head _ _ _ _ hcr; rw [e] at this; revert this; decide⟩
  obtain ⟨w, x, hw, hx⟩ := h2
  rw [hw] at h ⊢
  unfold Lib.trimLeftB at h ⊢
  by_cases hwb : Bl w
  · have := drop_bl w [x] hwb
    rw [show (fun c : UInt8 => c == 32) = (· == 32) from rfl] at this
    rw [this, List.dropWhile_cons, if_neg (by simpa using hx)]
    exact ⟨[], x, rfl, hx⟩
  · obtain ⟨b, h1, h2⟩ := drop_ex w
    obtain ⟨c, r, hcr⟩ : ∃ c r, w.dropWhile (fun c => c == 32) = c :: r := by
      cases e : w.dropWhile (fun c => c == 32) with
      | nil => rw [e, List.append_nil] at h1; rw [← h1] at h2; exact absurd h2 hwb
      | cons c r => exact ⟨c, r, rfl⟩
    have hc : c ≠ 32 := fun e => by have := dropW_head _ _ _ _ hcr; rw [e] at this; revert this; decide
    have e2 : w ++ [x] = b ++ (c :: r ++ [x]) := by rw [h1, hcr]; simp
    rw [e2]
    have := drop_bl b (c :: r ++ [x]) h2
    rw [show (fun c : UInt8 => c == 32) = (· == 32) from rfl] at this
    rw [this, List.cons_append, List.dropWhile_cons, if_neg (by simpa using hc)]
    exact ⟨c :: r, x, rfl, hx⟩
/-- A field's members, told by its text. -/
theorem top_read (hT : Tellsm rd R) {s : ByteArray} {ms : List S34} (h : LT R (Lib.trimB (L s) 32) ms) (k : Nat) (hk : 4000 < k) (hs : s.size ≤ 4000) : rdTop rd k s = some ms := by
  unfold rdTop
  rw [if_neg (by omega)]
  have := trim_size s
  exact all_reads hT h k (trimSp s) (by rw [← trim_L, ← size_L]; omega) (trim_L s)
theorem top_inv (hT : Tellsm rd R) {s : ByteArray} {ms : List S34} {k : Nat} (h : rdTop rd k s = some ms) : s.size ≤ 4000 ∧ ((Lib.trimB (L s) 32 = [] ∧ ms = []) ∨ LT R (Lib.trimB (L s) 32) ms) := by
  unfold rdTop at h
  split at h
  · cases h
  · rename_i h0
    refine ⟨by omega, ?_⟩
    have := all_inv hT _ _ _ h
    rwa [trim_L] at this
theorem top_k (hT : Tellsm rd R) {s : ByteArray} {ms : List S34} {k : Nat} (h : rdTop rd k s = some ms) (k' : Nat) (hk' : 4000 < k') : rdTop rd k' s = some ms := by
  obtain ⟨h1, h2⟩ := top_inv hT h
  rcases h2 with ⟨h2, rfl⟩ | h2
  · unfold rdTop
    rw [if_neg (by omega)]
    obtain ⟨d, rfl⟩ : ∃ d, k' = d + 1 := ⟨k' - 1, by omega⟩
    rw [rdAll, if_pos (by rw [L_toList, trim_L]; exact h2)]
  · exact top_read hT h2 k' hk' h1
theorem LT.head32 (hT : Tellsm rd R) {u : List UInt8} {ms : List S34} (h : LT R u ms) : ∃ c u', u = c :: u' ∧ c ≠ 32 := by
  obtain ⟨c, u', e, _, hc⟩ := LT.head hT h
  exact ⟨c, u', e, hc⟩
/-- Two fields' members, with a comma and blanks between. -/
theorem top_join (hT : Tellsm rd R) {a b : List UInt8} {la lb : List S34} (ha : LT R (Lib.trimB a 32) la) (hb : LT R (Lib.trimB b 32) lb) (w1 w2 : List UInt8) (h1 : Ws w1) (h2 : Ws w2) (s : ByteArray) (e : L s = a ++ (w1 ++ (44 :: (w2 ++ b)))) (hs : s.size ≤ 4000) (k : Nat) (hk : 4000 < k) : rdTop rd k s = some (la ++ lb) := by
  obtain ⟨a1, a2, ea, ha1, ha2⟩ := trim_ex a
  obtain ⟨b1, b2, eb, hb1, hb2⟩ := trim_ex b
  have hbl : Last0 (Lib.trimB b 32) := trim_last b (by obtain ⟨c, u', e, _⟩ := LT.head hT hb; rw [e]; simp)
  have hah := LT.head32 hT ha
  generalize Lib.trimB a 32 = ua at ha ea hah
  generalize Lib.trimB b 32 = ub at hb eb hbl
  have hj := LT.app ha hb (a2 ++ w1) (w2 ++ b1) (ha2.ws.app h1) (h2.app hb1.ws)
  refine top_read hT ?_ k hk hs
  have e2 : L s = a1 ++ ((ua ++ ((a2 ++ w1) ++ (44 :: ((w2 ++ b1) ++ ub)))) ++ b2) := by
    rw [e, ea, eb]; simp
  rw [e2, trim_mid a1 _ b2 ha1 hb2]
  · exact hj
  · obtain ⟨c, u', rfl, hc⟩ := hah
    exact ⟨c, _, rfl, hc⟩
  · have := hbl.cons (ua ++ ((a2 ++ w1) ++ (44 :: (w2 ++ b1))))
    simpa using this
end Go.Proofs.YtjdbiicjfpgjkaaGreatDoor.Pl
/- Chapter 6: of one key the last member counts, at the first one's place. -/
namespace Go.Proofs.YtjdbiicjfpgjkaaGreatDoor.Pl
open Go.RowKit Go.Proofs.YtjdbiicjfpgjkaaGreatDoor.Q Go.Proofs.YtjdbiicjfpgjkaaGreatDoor.Sf Go.Proofs.YtjdbiicjfpgjkaaGreatDoorW.PrintWords Go.Proofs.YtjdbiicjfpgjkaaGreatDoorW.PrintLast
set_option linter.unusedVariables false
set_option linter.unusedSimpArgs false
theorem dist_fold : ∀ (l out : List S34), Dist6 out → Dist6 (l.foldl putM out)
  | [], _, h => h
  | m :: l, out, h => by rw [List.foldl_cons]; exact dist_fold l _ (dist_put out m h)
theorem dict_dist (l : List S34) : Dist6 (dictOf l) := dist_fold l [] List.nodup_nil
theorem idx_at (l : List S34) (h : Dist6 l) (n : Nat) (hn : n < l.length) : idxK l (l[n]).f0 = some n := by
  unfold idxK
  refine List.findIdx?_eq_some_iff_getElem.2 ⟨by simpa using hn, by simp, fun j hj => ?_⟩
  unfold Dist6 at h
  have := List.pairwise_iff_getElem.1 h j n (by simp; omega) (by simpa using hn) hj
  simpa using this
theorem put_at (l : List S34) (h : Dist6 l) (n : Nat) (hn : n < l.length) (m : S34) (hm : m.f0 = (l[n]).f0) : putM l m = l.set n m := by
  unfold putM
  rw [hm, idx_at l h n hn]
theorem dist_ne {l : List S34} (h : Dist6 l) {i k : Nat} (hi : i < l.length) (hk : k < i) : (l[i]).f0 ≠ (l[k]'(by omega)).f0 := by
  unfold Dist6 at h
  have := List.pairwise_iff_getElem.1 h k i (by simp; omega) (by simpa using hi) hk
  simp only [List.getElem_map] at this
  exact fun e => this e.symm
theorem km_key {u : List UInt8} {m : S34} (h : KM u m) : KT (L m.f0) := by
  cases h with
  | eq k u m hk h => show KT (L (B k)); rw [L_B]; exact hk
  | flag k p l hk hp => show KT (L (B k)); rw [L_B]; exact hk
theorem lt_all {R : List UInt8 → S34 → Prop} {P : S34 → Prop} (hP : ∀ u m, R u m → P m) {u : List UInt8} {ms : List S34} (h : LT R u ms) : ∀ m ∈ ms, P m := by
  induction h with
  | one u m w h hw => intro q hq; rw [List.mem_singleton.1 hq]; exact hP _ _ h
  | more u m w1 w2 v ms h hw1 hw2 hv ih =>
    intro q hq
    rcases List.mem_cons.1 hq with rfl | hq
    · exact hP _ _ h
    · exact ih q hq
def m77 (k : ByteArray) : S34 := ⟨k, false, ⟨1, 77, ⟨#[]⟩, []⟩, [], []⟩
theorem vt77 : VT [55, 55] 1 77 [] := by
  have := VT.int [] [55, 55] (.inl rfl) (by simp) (by decide) (by decide)
  exact this
theorem km77 (k : ByteArray) (h : KT (L k)) : KM (L k ++ [61, 55, 55]) (m77 k) := by
  have hi : ITm [55, 55] ⟨1, 77, ⟨#[]⟩, []⟩ := ⟨[55, 55], [], rfl, vt77, PT.nil _⟩
  have := KM.eq (L k) [55, 55] _ h (MT.itm _ _ hi)
  rwa [B_L] at this
/-- One member more of a key that is there. -/
theorem dict_more (s : ByteArray) (k : Nat) (hk : 4000 < k) (ms : List S34) (h : rdTop rdKeyed k s = some ms) (n : Nat) (hn : n < (dictOf ms).length) (t : ByteArray) (e : L t = L s ++ (44 :: (L ((dictOf ms)[n]).f0 ++ [61, 55, 55]))) (ht : t.size ≤ 4000) :
    (rdTop rdKeyed k t).map dictOf = some ((dictOf ms).set n (m77 ((dictOf ms)[n]).f0)) := by
  obtain ⟨h1, h2⟩ := top_inv tells_k h
  rcases h2 with ⟨_, rfl⟩ | h2
  · exact absurd hn (by simp [dictOf])
  · have hkt : KT (L ((dictOf ms)[n]).f0) := by
      rcases mem_dict ms [] _ (List.getElem_mem hn) with hm | hm
      · exact lt_all (P := fun m => KT (L m.f0)) (fun u m h => km_key h) h2 _ hm
      · cases hm
    have hq := km77 _ hkt
    have ho : LT KM (L ((dictOf ms)[n]).f0 ++ [61, 55, 55]) [m77 ((dictOf ms)[n]).f0] := by
      have := LT.one (R := KM) _ _ [] hq Ws.nil
      rwa [List.append_nil] at this
    have hb : Lib.trimB (L ((dictOf ms)[n]).f0 ++ [61, 55, 55]) 32 = L ((dictOf ms)[n]).f0 ++ [61, 55, 55] := by
      have := trim_mid [] (L ((dictOf ms)[n]).f0 ++ [61, 55, 55]) [] (fun _ h => by cases h) (fun _ h => by cases h) (LT.head32 tells_k ho) hq.last
      simpa using this
    rw [top_join tells_k h2 (by rw [hb]; exact ho) [] [] Ws.nil Ws.nil t (by rw [e]; simp) ht k hk]
    show some (dictOf (ms ++ [_])) = _
    rw [dictOf_snoc, put_at _ (dict_dist ms) n hn (m77 ((dictOf ms)[n]).f0) rfl]
end Go.Proofs.YtjdbiicjfpgjkaaGreatDoor.Pl
/- No key of a dictionary that is read is there twice, and one more of a key counts, at the first one's place: over the printed functions. -/
namespace Go.Proofs.YtjdbiicjfpgjkaaGreatDoor.Pure
open Go.RowKit Go.Proofs.YtjdbiicjfpgjkaaGreatDoor.Q Go.Proofs.YtjdbiicjfpgjkaaGreatDoor.Sf Go.Proofs.YtjdbiicjfpgjkaaGreatDoor.Pl Go.Proofs.YtjdbiicjfpgjkaaGreatDoorW.PrintWords Go.Proofs.YtjdbiicjfpgjkaaGreatDoorW.PrintLast
set_option linter.unusedVariables false
theorem top_fit {rd : ByteArray → Option (S34 × ByteArray)} (hl : Less rd) (k : Nat) (s : ByteArray) (l : List S34) (h : rdTop rd k s = some l) : l.length ≤ s.size ∧ ∀ m ∈ l, Fit s.size m := by
  unfold rdTop at h
  split at h
  · cases h
  · have h1 := trim_size s
    obtain ⟨h2, h3⟩ := all_fit hl _ _ _ h
    exact ⟨by omega, fun m hm => (h3 m hm).mono (by omega)⟩
section
variable (s : ByteArray) (n : Int) (l : List S34) (e : Int)
theorem keys_l1 (hd : Dist6 l) (hl : l.length ≤ 1000) (i : Nat) (hi : i < l.length) : ∀ (m j k : Nat), j + m = i → glacislaw06_SfieldKeys.l1 (k + m + 1) s n true l e (i : Int) (j : Int) = glacislaw06_SfieldKeys.l0 k s n true l e ((i + 1 : Nat) : Int)
  | 0, j, k, hm => by
    rw [Nat.add_zero, glacislaw06_SfieldKeys.l1, if_neg (by omega), wrap_next i (by omega)]
  | m + 1, j, k, hm => by
    have hj : j < l.length := by omega
    rw [glacislaw06_SfieldKeys.l1, if_pos (by omega), if_pos (by omega), if_pos (by omega), if_pos (by omega), if_pos (by omega), rd_memb l i hi, rd_memb l j hj, if_neg (fun h => dist_ne hd hi (by omega : j < i) (toList_inj.1 h)), wrap_next j (by omega)]
    exact keys_l1 hd hl i hi m (j + 1) k (by omega)
theorem keys_l0 (hd : Dist6 l) (hl : l.length ≤ 1000) (K c : Nat) (hc : l.length + 2 ≤ c) (hK : ∀ k, K ≤ k → (if e = 0 then (glacislaw06_SfieldKeys.j2 k s n true l ((l.length : Int) == 0)) else (glacislaw06_SfieldKeys.j2 k s n true l true)) = some true) (d : Nat) : ∀ (i k : Nat), i + d = l.length → K + d * c < k → glacislaw06_SfieldKeys.l0 k s n true l e (i : Int) = some true := by
  induction d with
  | zero =>
    intro i k hi hk
    obtain ⟨k, rfl⟩ : ∃ k', k = k' + 1 := ⟨k - 1, by omega⟩
    rw [glacislaw06_SfieldKeys.l0, if_neg (by omega)]
    exact hK k (by rw [Nat.zero_mul] at hk; omega)
  | succ d ih =>
    intro i k hi hk
    rw [Nat.succ_mul] at hk
    obtain ⟨k, rfl⟩ : ∃ k', k = (k' + i + 1) + 1 := ⟨k - i - 2, by omega⟩
    rw [glacislaw06_SfieldKeys.l0, if_pos (by omega)]
    have := keys_l1 s n l e hd hl i (by omega) i 0 k (by omega)
    rw [show ((0 : Nat) : Int) = 0 from rfl] at this
    rw [this]
    exact ih (i + 1) k (by omega) (by omega)
end
theorem tmod_at (p : Int) (hp : 0 ≤ p) (len : Nat) (hl : 0 < len) : ∃ m : Nat, Int.tmod p (len : Int) = (m : Int) ∧ m < len := by
  obtain ⟨q, rfl⟩ := Int.eq_ofNat_of_zero_le hp
  refine ⟨q % len, ?_, Nat.mod_lt _ hl⟩
  rw [Int.tmod_eq_emod_of_nonneg (by omega)]
  rfl
theorem keys_end (s : ByteArray) (hs : s.size ≤ 1000) (ms : List S34) (h : rdTop rdKeyed 2000000 s = some ms) (m : Nat) (hm : m < (dictOf ms).length) (k : Nat) (hk : 300000 ≤ k) :
    ∃ t2 : List S34 × Int, sfield_Dict.f k (((s ++ (⟨#[44]⟩ : ByteArray)) ++ ((dictOf ms)[m]).f0) ++ (⟨#[61, 55, 55]⟩ : ByteArray)) = some t2 ∧ t2.2 = 0 ∧ ((dictOf ms)[m]).f0.size ≤ 1000 ∧ (dictOf ms).length ≤ 1000 ∧
      glacisref06_Same.f k t2.1 ((dictOf ms).set m ⟨((dictOf ms)[m]).f0, false, (⟨1, 77, (⟨#[]⟩ : ByteArray), []⟩ : S31), [], []⟩) = some true := by
  obtain ⟨h1, h2⟩ := top_fit less_k 2000000 s ms h
  have hd := dictOf_len ms
  have hz : ((dictOf ms)[m]).f0.size ≤ 1000 := by
    rcases mem_dict ms [] _ (List.getElem_mem hm) with hq | hq
    · have := (h2 _ hq).2.2.2.2; omega
    · cases hq
  have e1 : (⟨#[44]⟩ : ByteArray).size = 1 := rfl
  have e2 : (⟨#[61, 55, 55]⟩ : ByteArray).size = 3 := rfl
  have hts : (((s ++ (⟨#[44]⟩ : ByteArray)) ++ ((dictOf ms)[m]).f0) ++ (⟨#[61, 55, 55]⟩ : ByteArray)).size ≤ 4000 := by
    rw [ByteArray.size_append, ByteArray.size_append, ByteArray.size_append]; omega
  have hq := top_k tells_k h k (by omega)
  have hT := dict_more s k (by omega) ms hq m hm (((s ++ (⟨#[44]⟩ : ByteArray)) ++ ((dictOf ms)[m]).f0) ++ (⟨#[61, 55, 55]⟩ : ByteArray)) (by
    rw [L_app, L_app, L_app]
    show ((L s ++ [44]) ++ _) ++ [61, 55, 55] = _
    simp) hts
  have hT2 := dict_f (((s ++ (⟨#[44]⟩ : ByteArray)) ++ ((dictOf ms)[m]).f0) ++ (⟨#[61, 55, 55]⟩ : ByteArray)) (by omega) k (by omega)
  rw [hT] at hT2
  refine ⟨_, hT2, rfl, hz, by omega, ?_⟩
  obtain ⟨l, e, h5, h6⟩ := dict_same (((s ++ (⟨#[44]⟩ : ByteArray)) ++ ((dictOf ms)[m]).f0) ++ (⟨#[61, 55, 55]⟩ : ByteArray)) (by omega) k (by omega)
  obtain ⟨rfl, _⟩ := Prod.mk.inj (Option.some.inj (hT2.symm.trans h5))
  exact h6
theorem SfieldKeys : ∀ (a0 : ByteArray) (a1 : Int), a0.size ≤ 140737488351232 → (Lit.int .i64 a1).wf = true → ∃ k, glacislaw06_SfieldKeys.f k a0 a1 = some true := by
  intro s n _ hn
  refine ⟨2000000, ?_⟩
  unfold glacislaw06_SfieldKeys.f
  rw [awake6 2000000 (by omega), Option.bind_some]
  by_cases hs : (s.size : Int) > 1000
  · rw [if_pos hs]
  rw [if_neg hs, dict_f s (by omega) 2000000 (by omega), Option.bind_some]
  cases h : rdTop rdKeyed 2000000 s with
  | none =>
    refine keys_l0 s n [] 50 List.nodup_nil (by simp) 10 2 (by simp) (fun k hk => ?_) 0 0 2000000 rfl (by omega)
    obtain ⟨k, rfl⟩ : ∃ k', k = k' + 1 := ⟨k - 1, by omega⟩
    rw [if_neg (by decide), glacislaw06_SfieldKeys.j2, if_pos rfl, if_pos rfl]
    rfl
  | some ms =>
    have hd := dictOf_len ms
    obtain ⟨h1, h2⟩ := top_fit less_k 2000000 s ms h
    refine keys_l0 s n (dictOf ms) 0 (dict_dist ms) (by omega) 300001 1002 (by omega) (fun k hk => ?_) (dictOf ms).length 0 2000000 (by omega) (by have : (dictOf ms).length * 1002 ≤ 1000 * 1002 := Nat.mul_le_mul_right _ (by omega); omega)
    obtain ⟨k, rfl⟩ : ∃ k', k = k' + 1 := ⟨k - 1, by omega⟩
    rw [if_pos rfl]
    by_cases hz : (dictOf ms).length = 0
    · have hb : (((dictOf ms).length : Int) == 0) = true := by rw [hz]; rfl
      rw [hb, glacislaw06_SfieldKeys.j2, if_pos rfl, if_pos rfl, hb]
    · have hb : (((dictOf ms).length : Int) == 0) = false := by rw [beq_eq_false_iff_ne]; omega
      rw [hb, glacislaw06_SfieldKeys.j2, if_neg (by decide)]
      have key : ∀ p : Int, 0 ≤ p → ∃ m : Nat, Int.tmod p ((dictOf ms).length : Int) = (m : Int) ∧ m < (dictOf ms).length := fun p hp => tmod_at p hp _ (by omega)
      have hlim : -9223372036854775808 ≤ n ∧ n ≤ 9223372036854775807 := by
        have h0 : IntKind.i64.min = -9223372036854775808 := rfl
        have : IntKind.i64.min ≤ n ∧ n ≤ 9223372036854775807 := by simpa [Lit.wf] using hn
        rwa [h0] at this
      by_cases hneg : n < 0
      · have e1 : wrap64 (n + 1) = n + 1 := by unfold wrap64; omega
        have e2 : wrap64 (-(n + 1)) = -(n + 1) := by unfold wrap64; omega
        rw [if_pos hneg, if_neg (by omega), e1, e2]
        obtain ⟨m, hm1, hm2⟩ := key (-(n + 1)) (by omega)
        rw [hm1]
        obtain ⟨t2, g1, g2, g3, g4, g5⟩ := keys_end s (by omega) ms h m hm2 k (by omega)
        have z1 : (⟨#[44]⟩ : ByteArray).size = 1 := rfl
        rw [rd_memb _ m hm2, if_pos (by omega), if_pos (by omega), if_pos (by omega), if_pos (by rw [ByteArray.size_append]; omega), if_pos (by rw [ByteArray.size_append, ByteArray.size_append]; omega), g1]
        simp only [Option.bind_some, List.nil_append, List.length_nil, Int.toNat_natCast]
        rw [if_pos (by omega), if_pos (by omega), g5, Option.bind_some, if_pos rfl, if_pos trivial, g2]
        rfl
      · rw [if_neg hneg, if_neg (by omega)]
        obtain ⟨m, hm1, hm2⟩ := key (n) (by omega)
        rw [hm1]
        obtain ⟨t2, g1, g2, g3, g4, g5⟩ := keys_end s (by omega) ms h m hm2 k (by omega)
        have z1 : (⟨#[44]⟩ : ByteArray).size = 1 := rfl
        rw [rd_memb _ m hm2, if_pos (by omega), if_pos (by omega), if_pos (by omega), if_pos (by rw [ByteArray.size_append]; omega), if_pos (by rw [ByteArray.size_append, ByteArray.size_append]; omega), g1]
        simp only [Option.bind_some, List.nil_append, List.length_nil, Int.toNat_natCast]
        rw [if_pos (by omega), if_pos (by omega), g5, Option.bind_some, if_pos rfl, if_pos trivial, g2]
        rfl
end Go.Proofs.YtjdbiicjfpgjkaaGreatDoor.Pure
/- The law glacis/glacislaw06.SfieldKeys, for every input: its call returns true and leaves its arguments as they were; the row, and its card. Its conditions: the row's own. -/
namespace Go.Proofs.YtjdbiicjfpgjkaaGreatDoor.sfieldKeys
open Go.ChangeShapes Go.WideShapes Go.ChangeAt Go.RowKit
open Go.Proofs.YtjdbiicjfpgjkaaGreatDoor Go.Proofs.YtjdbiicjfpgjkaaGreatDoorW.PrintWords
open Go.ChangeMaps (open_string shut_string)
open Go.Proofs.YtjdbiicjfpgjkaaGreatDoor.rc
set_option linter.unusedVariables false
theorem walk (W : World) (hT : Aside0 (Q.TabW W)) (a0 : ByteArray) (a1 : Int) (h0 : a0.size ≤ 140737488351232) (h1 : (Lit.int .i64 a1).wf = true) :
    Calls Tryz.prog 4 #[.string a0, .int .i64 a1] W fun e w' => e = .returned (.bool true) ∧ Below W.heap.size W w' := by
  obtain ⟨k, h⟩ := YtjdbiicjfpgjkaaGreatDoor.Pure.SfieldKeys a0 a1 h0 h1
  refine (YtjdbiicjfpgjkaaGreatDoor.Q.glacislaw06_SfieldKeys.calls k a0 a1 true W hT h).mono ?_
  rintro e w' ⟨rfl, hd⟩
  first | exact ⟨rfl, hd⟩ | exact ⟨rfl, hd.below⟩
set_option maxRecDepth 100000 in
theorem contract (H : Type) (enc : TypeId × Value → H) (W : World) (hT : Aside0 (Q.TabW W)) (base : Nat) (args : Array Value) (ds gs : List (DataW H)) (before : List MemPlace)
    (hval : ∀ (j : Nat) t v, Tryz.f4.params[j]? = some t → args[j]? = some v → Value.okWide Tryz.prog W .any base t v)
    (hW : DataW.Whole enc Tryz.prog Tryz.f4.params.toList Rows.sfieldKeysSpec.vars false W args.toList ds gs before)
    (hsz : (DataW.weightsEach Tryz.prog (Tryz.f4.params.toList ++ Rows.sfieldKeysSpec.plain.varTypes Tryz.prog) (ds ++ gs)).all (· ≤ reachBytes) = true) :
    Calls Tryz.prog 4 args W fun e W' => ∃ v, e = .returned v ∧ Rows.sfieldKeysSpec.post enc Tryz.prog Tryz.f4 false true false false W args v W' := by
  have hW' := hW
  obtain ⟨p, q, hA0, hV, rfl, hfz, hnd⟩ := hW
  have hA : DataW.TrodAll enc Tryz.prog W 0 (fun _ => true) true Tryz.f4.params.toList args.toList ds p := hA0
  rw [Tryz.params4] at hA hval hsz
  obtain ⟨v0, vs0, d0, ds0, p0, q0, hargs, rfl, rfl, h0, r0⟩ := trodAll_cons hA
  obtain ⟨v1, vs1, d1, ds1, p1, q1, rfl, rfl, rfl, h1, r1⟩ := trodAll_cons r0
  obtain ⟨rfl, rfl, rfl⟩ := trodAll_nil r1
  obtain rfl : args = #[v0, v1] := by cases args; simp_all
  obtain ⟨rfl, rfl⟩ := trodVars_none hV
  obtain ⟨a0, rfl, rfl, rfl, y0⟩ := open_string Tryz.underlying9 (hval 0 9 v0 rfl rfl) h0
  obtain ⟨a1, rfl, rfl, rfl, w1⟩ := open_int Tryz.underlying3 (hval 1 3 v1 rfl rfl) h1
  have w0 : a0.size ≤ 140737488351232 := by
    have z := sized_string hsz (j := 0) (t := 9) rfl rfl
    rw [Array.length_toList] at z
    exact z
  clear hA0
  refine (walk W hT a0 a1 w0 w1).mono fun e W' ⟨he, bel⟩ => ?_
  subst he
  exact ⟨_, rfl, _, _, _, [], _, [], hW', trodAll_mk1 (shut_bool Tryz.underlying4 _), (trodAll_cons_mk (shut_string Tryz.underlying9 y0) (trodAll_cons_mk (shut_int Tryz.underlying3 w1) trodAll_mk0)), rfl, bel.frame _, fun h => by cases h⟩
theorem laid_met (os : Os) : laidMet Tryz.prog Rows.sfieldKeysRow.laid ((laidWorld os).forCall (fun _ _ => 0) ⟨#[], #[.string ByteArray.empty, .int .i64 0], []⟩).memory :=
  laidMet_of_run' 8 (by kernel_rfl) (by kernel_rfl)
theorem reads (os : Os) {H : Type} (enc : TypeId × Value → H) : ∃ places, DataW.whole enc Tryz.prog ((laidWorld os).forCall (fun _ _ => 0) ⟨#[], #[.string ByteArray.empty, .int .i64 0], []⟩).memory Tryz.f4.params.toList Rows.sfieldKeysSpec.vars false (#[.string ByteArray.empty, .int .i64 0] : Array Value).toList 8 = some ([.lit (.string []), .lit (.int .i64 0)], [], places) :=
  ⟨[], by kernel_rfl⟩
set_option maxRecDepth 100000 in
theorem lifted (os : Os) (started : os.Started) (H : Type) (enc : TypeId × Value → H) (F : Stop.Interp) :
    ReturnsInHanded {} Tryz.checked os 4 .any ((OpenSpec.ofChange Rows.sfieldKeysSpec).preRow enc Tryz.prog Tryz.f4 Rows.sfieldKeysRow.domain false Rows.sfieldKeysRow.laid) (((OpenSpec.ofChange Rows.sfieldKeysSpec).at F).post enc Tryz.prog Tryz.f4 false true false false) := by
  obtain ⟨places, hx⟩ := reads os enc
  refine returnsInHanded_of_row (C := Tryz.checked) (s := (OpenSpec.ofChange Rows.sfieldKeysSpec)) own started (by kernel_rfl) Tryz.func4
    (witness_row_at (enc := enc) (C := Tryz.checked) false (laidWorld os) #[.string ByteArray.empty, .int .i64 0] rfl (by kernel_rfl) (by kernel_rfl) (by kernel_rfl)
      (OpenSpec.preRow_of_cond 8 hx (by kernel_rfl) (fun k hk => by cases hk) (by kernel_rfl) (laid_met os))) ?_
  intro W base args ds gs before hval hW _ hcond hsz hL _ _
  have hL1 := laidMet.tail hL
  have hL2 := laidMet.tail hL1
  have hT : Lib.TabIs Tryz.prog W "internal/strconv.uint64pow10" .u64 Lib.pow10Tab := Lib.tabIs_of_head (g := 3) (by kernel_rfl) (by kernel_rfl) Tryz.underlying149 Tryz.underlying137 (by kernel_rfl) (by kernel_rfl) hL2
  exact contract H enc W (Aside0.mk hT) base args ds gs before hval hW hsz
theorem said : Rows.SfieldKeysSaid :=
  OpenClaim.holds_of_cond 4 Tryz.f4 rfl rfl rfl rfl rfl rfl rfl ⟨rfl, rfl, rfl, rfl, rfl⟩ rfl rfl rfl rfl rfl (by kernel_rfl) Tryz.func4 (by kernel_rfl)
    (of_decide_eq_true (by kernel_rfl)) (by unfold Func.isWrapper; first | (rw [if_pos (by decide +kernel)]; kernel_rfl) | (rw [if_neg (by decide +kernel)]; exact ⟨rfl, rfl⟩))
    (fun os started H enc _ F => by rw [OpenClaim.pre_eq_preRow]; exact lifted os started H enc F)
theorem plain (f : FuncId) (fn : Func) (hf : Tryz.pinned.checked.prog.funcNamed "glacis/glacislaw06.SfieldKeys" = some f) (hfn : Tryz.pinned.checked.prog.funcs[f]? = some fn) :
    true = Tryz.pinned.checked.prog.looks [] ∧ ∀ (j : Nat) t, fn.params[j]? = some t → Tryz.pinned.checked.prog.wantsStandIn t = false := by
  obtain rfl : f = 4 := Option.some.inj ((show Tryz.prog.funcNamed "glacis/glacislaw06.SfieldKeys" = some 4 by kernel_rfl).symm.trans hf) |>.symm
  obtain rfl : fn = Tryz.f4 := (Option.some.inj (Tryz.func4.symm.trans hfn)).symm
  refine ⟨by kernel_rfl, fun j t ht => ?_⟩
  rw [Tryz.params4] at ht
  have hm : t ∈ [9, 3] := by simpa using Array.mem_of_getElem? ht
  have hall : ([9, 3].all fun u => !Tryz.prog.wantsStandIn u) = true := by kernel_rfl
  exact (show Tryz.prog.wantsStandIn t = false by simpa using List.all_eq_true.1 hall t hm)
/-- THE CARD. -/
theorem card : Rows.SfieldKeysCardSaid :=
  Claim7.holds_tied_plain_at .later [] _ _ _ _ said (fun _ h => by cases h) (by kernel_rfl) (fun _ h => by cases h) sfieldKeys_row_tie rfl ⟨rfl, rfl⟩ (by kernel_rfl) rfl plain (by kernel_rfl)
#print axioms card
end Go.Proofs.YtjdbiicjfpgjkaaGreatDoor.sfieldKeys
