/- The plain law: keys are the document's, and no two of different things the same. -/
import Derived.Test.YtneaogmbdpboiaaZWalks1
set_option linter.all false
namespace Go.Proofs.Ytneaogmbdpboiaa
open Go Go.Sp
theorem wf_i64 {n : Int} (h : (Lit.int .i64 n).wf = true) : -9223372036854775808 ≤ n ∧ n ≤ 9223372036854775807 := by
  simpa [Lit.wf, IntKind.min, IntKind.max, IntKind.signed, IntKind.bits] using h
theorem w64_id {x : Int} (h1 : -9223372036854775808 ≤ x) (h2 : x ≤ 9223372036854775807) : w64 x = x := by
  simp only [w64, IntKind.wrap, IntKind.signed, IntKind.bits]
  simp
  omega
theorem grd_yes {α : Type} {p : Prop} [Decidable p] (h : p) (x : Option α) : grd p x = x := if_pos h
/-- Around tells a number from 0 on. -/
theorem around (n m : Int) (hn : -9223372036854775808 ≤ n ∧ n ≤ 9223372036854775807) (hm : 0 < m) : ∃ t, concourseref01_Around.f n m = some t ∧ 0 ≤ t ∧ t < m := by
  unfold concourseref01_Around.f
  by_cases h : n < 0
  · rw [decide_eq_true h, cond_true, grd_yes (by omega), w64_id (x := n + 1) (by omega) (by omega), w64_id (by omega) (by omega)]
    exact ⟨_, rfl, Int.tmod_nonneg _ (by omega), Int.tmod_lt_of_pos _ hm⟩
  · rw [decide_eq_false h, cond_false, grd_yes (by omega)]
    exact ⟨_, rfl, Int.tmod_nonneg _ (by omega), Int.tmod_lt_of_pos _ hm⟩
theorem around_id (t m : Int) (h0 : 0 ≤ t) (h1 : t < m) : concourseref01_Around.f t m = some t := by
  unfold concourseref01_Around.f
  rw [decide_eq_false (by omega), cond_false, grd_yes (by omega), Int.tmod_eq_of_lt h0 h1]
theorem size_ok {s : ByteArray} (h : s.size ≤ maxLen) : -9223372036854775808 ≤ (s.size : Int) ∧ (s.size : Int) ≤ 9223372036854775807 := by
  unfold maxLen at h; omega
/-- A room of the small world: five bytes. -/
theorem roomOf (n : Int) (hn : -9223372036854775808 ≤ n ∧ n ≤ 9223372036854775807) : ∃ r, concourseref01_RoomOf.f n = some r ∧ r.data.toList.length = 5 := by
  obtain ⟨t, ht, h0, h1⟩ := around n 2 hn (by decide)
  unfold concourseref01_RoomOf.f
  rw [ht, Option.bind_some]
  obtain rfl | rfl : t = 0 ∨ t = 1 := by omega
  · exact ⟨_, rfl, rfl⟩
  · exact ⟨_, rfl, rfl⟩
theorem userOf (n : Int) (hn : -9223372036854775808 ≤ n ∧ n ≤ 9223372036854775807) : ∃ r, concourseref01_UserOf.f n = some r ∧ r.data.toList.length = 5 := by
  obtain ⟨t, ht, h0, h1⟩ := around n 9 hn (by decide)
  unfold concourseref01_UserOf.f
  rw [ht, Option.bind_some]
  obtain rfl | rfl | rfl | rfl | rfl | rfl | rfl | rfl | rfl : t = 0 ∨ t = 1 ∨ t = 2 ∨ t = 3 ∨ t = 4 ∨ t = 5 ∨ t = 6 ∨ t = 7 ∨ t = 8 := by omega
  all_goals exact ⟨_, rfl, rfl⟩
theorem eventOf (n : Int) (hn : -9223372036854775808 ≤ n ∧ n ≤ 9223372036854775807) : ∃ r, concourseref01_EventOf.f 3 n = some r ∧ r.data.toList.length = 3 := by
  obtain ⟨t, ht, h0, h1⟩ := around n 9 hn (by decide)
  unfold concourseref01_EventOf.f
  rw [ht, Option.bind_some]
  obtain rfl | rfl | rfl | rfl | rfl | rfl | rfl | rfl | rfl : t = 0 ∨ t = 1 ∨ t = 2 ∨ t = 3 ∨ t = 4 ∨ t = 5 ∨ t = 6 ∨ t = 7 ∨ t = 8 := by omega
  all_goals exact ⟨_, rfl, rfl⟩
theorem threadOf (n : Int) (hn : -9223372036854775808 ≤ n ∧ n ≤ 9223372036854775807) : ∃ r, concourseref01_ThreadOf.f 3 n = some r ∧ r.data.toList.length ≤ 4 := by
  obtain ⟨t, ht, h0, h1⟩ := around n 11 hn (by decide)
  unfold concourseref01_ThreadOf.f
  rw [ht, Option.bind_some]
  by_cases h9 : t = 9
  · subst h9; exact ⟨_, rfl, by decide⟩
  by_cases h10 : t = 10
  · subst h10; exact ⟨_, rfl, by decide⟩
  have e1 : (t == 9) = false := by simpa using h9
  have e2 : (t == 10) = false := by simpa using h10
  obtain ⟨r, hr, hl⟩ := eventOf t (by omega)
  rw [e1, e2, cond_false, cond_false, hr]
  exact ⟨r, rfl, by omega⟩
/-- A key's text. -/
def keyT (x : SRooUseThrPri) : List UInt8 := [109, 32] ++ x.fRoom.data.toList ++ [32] ++ x.fUser.data.toList ++ [32] ++ x.fThread.data.toList ++ (if x.fPrivate then [32, 49] else [32, 48])
def Small (x : SRooUseThrPri) : Prop := x.fRoom.data.toList.length = 5 ∧ x.fUser.data.toList.length = 5 ∧ x.fThread.data.toList.length ≤ 4
theorem toArray_data (l : List UInt8) : (⟨l.toArray⟩ : ByteArray).data.toList = l := List.toList_toArray
theorem bytes_eq {a b : ByteArray} : a = b ↔ a.data.toList = b.data.toList := by
  constructor
  · intro h; rw [h]
  · intro h; cases a; cases b; simp at h; rw [h]
theorem size_list (s : ByteArray) : s.size = s.data.toList.length := by cases s; rfl
theorem data_app (a b : ByteArray) : (a ++ b).data.toList = a.data.toList ++ b.data.toList := by simp
theorem join5 (r u t l : ByteArray) (b c : UInt8) (h : r.data.toList.length + u.data.toList.length + t.data.toList.length ≤ 1000) : strings_Join.f [⟨#[b]⟩, r, u, t, ⟨#[c]⟩] ⟨#[32]⟩ = some ⟨([b, 32] ++ r.data.toList ++ [32] ++ u.data.toList ++ [32] ++ t.data.toList ++ [32, c]).toArray⟩ := by
  have e : Lib.join (List.map (·.data.toList) [(⟨#[b]⟩ : ByteArray), r, u, t, ⟨#[c]⟩]) [32] = [b, 32] ++ r.data.toList ++ [32] ++ u.data.toList ++ [32] ++ t.data.toList ++ [32, c] := by
    simp only [List.map_cons, List.map_nil, Lib.join, List.append_assoc]
    rfl
  unfold strings_Join.f
  rw [show (⟨#[32]⟩ : ByteArray).data.toList = [32] from rfl, e, grd_yes]
  refine ⟨by simp only [List.length_cons, List.length_nil]; omega, ?_⟩
  simp only [List.length_append, List.length_cons, List.length_nil]
  omega
theorem markKey {x : SRooUseThrPri} (h : x.fRoom.data.toList.length + x.fUser.data.toList.length + x.fThread.data.toList.length ≤ 1000) : sync_MarkKey.f x = some ⟨(keyT x).toArray⟩ := by
  unfold sync_MarkKey.f keyT
  cases x.fPrivate
  · rw [cond_false, join5 _ _ _ ⟨#[]⟩ _ _ h]; rfl
  · rw [cond_true, join5 _ _ _ ⟨#[]⟩ _ _ h]; rfl
theorem refKey {x : SRooUseThrPri} (h : Small x) : concourseref21_Key.f ⟨1, x, ⟨#[]⟩⟩ = some ⟨(keyT x).toArray⟩ := by
  obtain ⟨h1, h2, h3⟩ := h
  unfold concourseref21_Key.f keyT
  cases x.fPrivate
  all_goals
    simp only [beq_self_eq_true, cond_true, cond_false, Option.bind_some]
    iterate 6 rw [grd_yes (by simp only [size_list, data_app, List.length_append, toArray_data, h1, h2, List.length_cons, List.length_nil]; omega)]
    refine congrArg some (bytes_eq.2 ?_)
    simp only [toArray_data, data_app]
    rfl
theorem keyT_inj {x y : SRooUseThrPri} (hx : Small x) (hy : Small y) (h : keyT x = keyT y) : x = y := by
  obtain ⟨x1, x2, x3, x4⟩ := x
  obtain ⟨y1, y2, y3, y4⟩ := y
  obtain ⟨a1, a2, a3⟩ := hx
  obtain ⟨b1, b2, b3⟩ := hy
  simp only at a1 a2 a3 b1 b2 b3
  unfold keyT at h
  simp only [List.append_assoc] at h
  have h := List.append_cancel_left h
  obtain ⟨e1, h⟩ := List.append_inj h (by omega)
  have h := List.append_cancel_left h
  obtain ⟨e2, h⟩ := List.append_inj h (by omega)
  have h := List.append_cancel_left h
  obtain ⟨e3, e4⟩ := List.append_inj' h (by split <;> split <;> rfl)
  have e5 : x4 = y4 := by
    cases x4 <;> cases y4 <;> simp at e4 <;> rfl
  rw [bytes_eq.2 e1, bytes_eq.2 e2, bytes_eq.2 e3, e5]
theorem roomKey {r : ByteArray} (h : r.data.toList.length = 5) : ∃ t, sync_RoomKey.f r = some t ∧ concourseref21_Key.f ⟨2, ⟨⟨#[]⟩, ⟨#[]⟩, ⟨#[]⟩, false⟩, r⟩ = some t := by
  unfold sync_RoomKey.f concourseref21_Key.f
  refine ⟨_, grd_yes (by simp only [size_list, h, toArray_data, List.length_cons, List.length_nil]; omega) _, ?_⟩
  simp only [show ((2 : Int) == 1) = false from rfl, show ((2 : Int) == 2) = true from rfl, cond_true, cond_false]
  exact grd_yes (by simp only [size_list, h, toArray_data, List.length_cons, List.length_nil]; omega) _
theorem userKey {r : ByteArray} (h : r.data.toList.length = 5) : ∃ t, sync_UserKey.f r = some t ∧ concourseref21_Key.f ⟨3, ⟨⟨#[]⟩, ⟨#[]⟩, ⟨#[]⟩, false⟩, r⟩ = some t := by
  unfold sync_UserKey.f concourseref21_Key.f
  refine ⟨_, grd_yes (by simp only [size_list, h, toArray_data, List.length_cons, List.length_nil]; omega) _, ?_⟩
  simp only [show ((3 : Int) == 1) = false from rfl, show ((3 : Int) == 2) = false from rfl, cond_false]
  exact grd_yes (by simp only [size_list, h, toArray_data, List.length_cons, List.length_nil]; omega) _
theorem good (a : SKAt) (h : SKAt.ok a) : ∃ g, concourseref11_Good.f 3 a = some g ∧ Small g.fK := by
  obtain ⟨⟨h1, h2, h3, _, _⟩, ⟨h4, h5, _⟩, _⟩ := h
  obtain ⟨r, hr, lr⟩ := roomOf _ (size_ok h1)
  obtain ⟨u, hu, lu⟩ := userOf _ (size_ok h2)
  obtain ⟨t, ht, lt⟩ := threadOf _ (size_ok h3)
  obtain ⟨d, hd, _⟩ := around _ 4 (wf_i64 h4) (by decide)
  obtain ⟨e, he, _⟩ := eventOf _ (size_ok h5)
  refine ⟨⟨⟨r, u, t, a.fK.fPrivate⟩, ⟨d, e⟩⟩, ?_, lr, lu, lt⟩
  unfold concourseref11_Good.f
  simp only [hr, hu, ht, hd, he, Option.bind_some]
theorem lives : concourselaw21_lives.f = some true := by
  have e := markKey (x := ⟨⟨#[33, 114, 58, 115]⟩, ⟨#[64, 97, 58, 115]⟩, ⟨#[]⟩, true⟩) (by decide)
  unfold concourselaw21_lives.f
  rw [e]
  rfl
theorem SyncKeys_pure (a0 : SKAt) (a1 : SKAt) (a2 : Int) (k0 : SKAt.ok a0) (k1 : SKAt.ok a1) (k2 : (fun n => (Lit.int .i64 n).wf = true) a2) : ∃ k, concourselaw21_SyncKeys.f k a0 a1 a2 = some true := by
  obtain ⟨x, hx, sx⟩ := good a0 k0
  obtain ⟨y, hy, sy⟩ := good a1 k1
  obtain ⟨r, hr, lr⟩ := roomOf a2 (wf_i64 k2)
  obtain ⟨u, hu, lu⟩ := userOf a2 (wf_i64 k2)
  obtain ⟨t1, h1, h2⟩ := roomKey lr
  obtain ⟨t2, h3, h4⟩ := userKey lu
  refine ⟨3, ?_⟩
  unfold concourselaw21_SyncKeys.f
  have mx : sync_MarkKey.f x.fK = _ := markKey (by obtain ⟨b1, b2, b3⟩ := sx; omega)
  have my : sync_MarkKey.f y.fK = _ := markKey (by obtain ⟨b1, b2, b3⟩ := sy; omega)
  have e : (decide ((⟨(keyT x.fK).toArray⟩ : ByteArray) = ⟨(keyT y.fK).toArray⟩) == decide (x.fK = y.fK)) = true := by
    rw [beq_iff_eq, Bool.eq_iff_iff, decide_eq_true_iff, decide_eq_true_iff]
    constructor
    · intro h
      rw [bytes_eq, toArray_data, toArray_data] at h
      exact keyT_inj sx sy h
    · intro h; rw [h]
  simp only [hx, hy, mx, my, hr, hu, refKey sx, Option.bind_some, decide_true, cond_true, e, h1, h2, h3, h4, lives]
end Go.Proofs.Ytneaogmbdpboiaa
