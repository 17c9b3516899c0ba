/- Plain: EDUs that the laws of the gate ask of; the gate's answers, as the document's. -/
import Derived.Test.YtdhaolcplgbalaaGreatZWR
import Derived.Test.YtdhaolcplgbalaaGreatZEL
set_option linter.all false
set_option maxRecDepth 10000
namespace Go.Proofs.YtdhaolcplgbalaaGreat
open Go Go.Sp
theorem few8 (s : ByteArray) : ∃ r, concourseref01_Few.f s 8 = some r := by
  unfold concourseref01_Few.f
  by_cases h : (8 : Int) < (s.size : Int)
  · rw [decide_eq_true h]
    simp only [cond_true, grd]
    rw [if_pos ⟨by omega, by omega, by omega⟩]
    exact ⟨_, rfl⟩
  · rw [decide_eq_false h]; exact ⟨_, rfl⟩
theorem few40 (s : ByteArray) : ∃ r, concourseref01_Few.f s 40 = some r ∧ r.size ≤ maxLen := by
  unfold concourseref01_Few.f
  by_cases h : (40 : Int) < (s.size : Int)
  · rw [decide_eq_true h]
    simp only [cond_true, grd]
    rw [if_pos ⟨by omega, by omega, by omega⟩]
    refine ⟨_, rfl, Nat.le_trans ?_ (show 40 ≤ maxLen by decide)⟩
    simp only [ByteArray.size_extract]
    omega
  · rw [decide_eq_false h]
    exact ⟨_, rfl, Nat.le_trans (by omega) (show 40 ≤ maxLen by decide)⟩
theorem fewE_ev (a : Edu) : ∃ e, concourseref03_Few.f a = some e ∧ Zz e := by
  obtain ⟨r1, a1, b1⟩ := few40 a.fRoom
  obtain ⟨r2, a2, b2⟩ := few40 a.fUser
  obtain ⟨r3, a3, b3⟩ := few40 a.fEvent
  obtain ⟨r4, a4, b4⟩ := few40 a.fThread
  refine ⟨⟨a.fKind, r1, r2, r3, r4, a.fPrivate, a.fOn, a.fSpan, a.fState, a.fTick, a.fStamp⟩, ?_, ⟨b1, b2, b3, b4⟩⟩
  unfold concourseref03_Few.f
  rw [a1, a2, a3, a4]; rfl
theorem eventOf_sz {n : Int} (hn : I64 n) : ∃ r, Ev (fun k => concourseref01_EventOf.f k n) r ∧ r.size ≤ maxLen := by
  obtain ⟨m, h1, h2, h3⟩ := around_ev (m := 9) hn (by decide) (by decide)
  obtain ⟨k, hk, rfl⟩ := int_lt (n := 9) h2 h3
  refine ⟨evs k, ?_, show 3 ≤ maxLen by decide⟩
  have h := eventOf_at k hk
  unfold concourseref01_EventOf.f at h ⊢
  rw [show (9 : Int) = ((9 : Nat) : Int) from rfl, around_small hk (by decide)] at h
  rw [h1]
  exact h
theorem threadOf_sz {n : Int} (hn : I64 n) : ∃ r, Ev (fun k => concourseref01_ThreadOf.f k n) r ∧ r.size ≤ maxLen := by
  obtain ⟨m, h1, h2, h3⟩ := around_ev (m := 11) hn (by decide) (by decide)
  unfold concourseref01_ThreadOf.f
  by_cases e1 : m = 9
  · exact ⟨_, Ev.bind (Ev.of h1) (Ev.ct (by simp [e1]) Ev.pure), Nat.zero_le _⟩
  · by_cases e2 : m = 10
    · exact ⟨_, Ev.bind (Ev.of h1) (Ev.cf (by simp [e1]) (Ev.ct (by simp [e2]) Ev.pure)), show 4 ≤ maxLen by decide⟩
    · obtain ⟨r, hr, hz⟩ := eventOf_sz (n := m) ⟨by omega, by omega⟩
      exact ⟨r, Ev.bind (Ev.of h1) (Ev.cf (by simp [e1]) (Ev.cf (by simp [e2]) (Ev.bind hr Ev.pure))), hz⟩
theorem w64_i64 (x : Int) : I64 (w64 x) := by
  unfold I64
  simp only [w64, IntKind.wrap, IntKind.signed, IntKind.bits]
  simp
  constructor <;> omega
theorem rooms_sz {r : ByteArray} (h : r ∈ rooms) : r.size ≤ maxLen := by
  unfold rooms at h
  simp only [List.mem_cons, List.not_mem_nil, or_false] at h
  rcases h with rfl | rfl <;> exact (show 5 ≤ maxLen by decide)
theorem users_sz {r : ByteArray} (h : r ∈ users) : r.size ≤ maxLen := by
  unfold users at h
  simp only [List.mem_cons, List.not_mem_nil, or_false] at h
  rcases h with rfl | rfl | rfl | rfl | rfl | rfl | rfl | rfl | rfl <;> exact (show 5 ≤ maxLen by decide)
theorem good_ev {a : Edu} (h : Edu.ok a) : ∃ e, Ev (fun k => concourseref03_Good.f k a) e ∧ Zz e := by
  obtain ⟨c1, c2, c3, c4, c5, c6, c7, c8, c9, c10, c11, _⟩ := h
  obtain ⟨m, h1, h2, h3⟩ := around_ev (m := 3) (i64_of c1) (by decide) (by decide)
  obtain ⟨u, u1, u2⟩ := userOf_ev (i64_of c9)
  obtain ⟨t, t1, t2, t3⟩ := around_ev (m := 100) (i64_of c10) (by decide) (by decide)
  obtain ⟨s, s1, s2, s3⟩ := around_ev (m := 9) (i64_of c11) (by decide) (by decide)
  obtain ⟨ro, r1, r2⟩ := roomOf_ev (i64_of c8)
  obtain ⟨t9, y1, y2, y3⟩ := around_ev (m := 9) (i64_of c10) (by decide) (by decide)
  obtain ⟨eo, e1, e2⟩ := eventOf_sz (n := w64 ((a.fEvent.size : Int) + t9)) (w64_i64 _)
  obtain ⟨th, f1, f2⟩ := threadOf_sz (n := (a.fThread.size : Int)) ⟨by omega, by have h : a.fThread.size ≤ 2 ^ 63 - 1 := c5; omega⟩
  obtain ⟨sp, p1, p2, p3⟩ := around_ev (m := 60) (i64_of c8) (by decide) (by decide)
  obtain ⟨st, q1, q2, q3⟩ := around_ev (m := 3) (i64_of c8) (by decide) (by decide)
  have hu := users_sz u2
  have hr := rooms_sz r2
  have h0 : (⟨#[]⟩ : ByteArray).size ≤ maxLen := Nat.zero_le _
  have fin : ∀ e, Ev (fun k => cond ((w64 (1 + m)) == 1) ((concourseref01_RoomOf.f a.fSpan).bind fun t662 => (concourseref01_Around.f a.fTick 9).bind fun t664 => (concourseref01_EventOf.f k (w64 ((a.fEvent.size : Int) + t664))).bind fun t666 => (concourseref01_ThreadOf.f k (a.fThread.size : Int)).bind fun t668 => some (⟨w64 (1 + m), t662, u, t666, t668, a.fPrivate, false, 0, 0, t, s⟩ : Edu)) (cond ((w64 (1 + m)) == 2) ((concourseref01_RoomOf.f a.fSpan).bind fun t671 => cond a.fOn ((concourseref01_Around.f a.fSpan 60).bind fun t674 => some (⟨w64 (1 + m), t671, u, (⟨#[]⟩ : ByteArray), (⟨#[]⟩ : ByteArray), false, a.fOn, w64 (1 + t674), 0, t, s⟩ : Edu)) (some (⟨w64 (1 + m), t671, u, (⟨#[]⟩ : ByteArray), (⟨#[]⟩ : ByteArray), false, a.fOn, 0, 0, t, s⟩ : Edu))) ((concourseref01_Around.f a.fSpan 3).bind fun t676 => some (⟨w64 (1 + m), (⟨#[]⟩ : ByteArray), u, (⟨#[]⟩ : ByteArray), (⟨#[]⟩ : ByteArray), false, false, 0, t676, t, s⟩ : Edu)))) e → Ev (fun k => concourseref03_Good.f k a) e := fun e he => by
    unfold concourseref03_Good.f
    exact Ev.bind (Ev.of h1) (Ev.bind (Ev.of u1) (Ev.bind (Ev.of t1) (Ev.bind (Ev.of s1) he)))
  cases k1 : (w64 (1 + m)) == 1 with
  | true => exact ⟨_, fin _ (Ev.ct k1 (Ev.bind (Ev.of r1) (Ev.bind (Ev.of y1) (Ev.bind e1 (Ev.bind f1 Ev.pure))))), ⟨hr, hu, e2, f2⟩⟩
  | false =>
    cases k2 : (w64 (1 + m)) == 2 with
    | true =>
      cases k3 : a.fOn with
      | true => exact ⟨_, fin _ (Ev.cf k1 (Ev.ct k2 (Ev.bind (Ev.of r1) (Ev.ct k3 (Ev.bind (Ev.of p1) Ev.pure))))), ⟨hr, hu, h0, h0⟩⟩
      | false => exact ⟨_, fin _ (Ev.cf k1 (Ev.ct k2 (Ev.bind (Ev.of r1) (Ev.cf k3 Ev.pure)))), ⟨hr, hu, h0, h0⟩⟩
    | false => exact ⟨_, fin _ (Ev.cf k1 (Ev.cf k2 (Ev.bind (Ev.of q1) Ev.pure))), ⟨h0, hu, h0, h0⟩⟩
theorem public_ev {a : Edu} (h : Edu.ok a) : ∃ e, Ev (fun k => concourseref03_Public.f k a) e ∧ Zz e := by
  obtain ⟨e, h1, h2⟩ := good_ev h
  unfold concourseref03_Public.f
  exact ⟨_, Ev.bind h1 Ev.pure, ⟨h2.room, h2.user, h2.event, h2.thread⟩⟩
theorem some_ev {a : Edu} (h : Edu.ok a) : ∃ l, Ev (fun k => concourselaw16_some.f k a) l ∧ l.length = 3 ∧ ∀ i : Nat, i < 3 → Zz (Edu.K.at l (i : Int)) := by
  obtain ⟨e1, a1, b1⟩ := good_ev h
  obtain ⟨e2, a2, b2⟩ := fewE_ev a
  obtain ⟨e3, a3, b3⟩ := public_ev h
  unfold concourselaw16_some.f
  refine ⟨_, Ev.bind a1 (Ev.bind (Ev.of a2) (Ev.bind a3 Ev.pure)), rfl, fun i hi => ?_⟩
  match i, hi with
  | 0, _ => exact b1
  | 1, _ => exact b2
  | 2, _ => exact b3
section
variable {v : VView} {w : RView} (hr : RelV v w) (hl : w.fD.length ≤ 50) (hd : ∀ room, (ofR w room).fL.length ≤ 1000)
include hr hl hd
theorem sees_both (u : ByteArray) {e : Edu} (z : Zz e) : ∃ b, Ev (fun k => gate_Sees.f k v u e) b ∧ Ev (fun k => concourseref16_Sees.f k w u e) b := by
  obtain ⟨b, l1, l2⟩ := local_both z
  unfold gate_Sees.f concourseref16_Sees.f
  cases b with
  | false => exact ⟨false, Ev.bind l1 Ev.pure, Ev.bind l2 Ev.pure⟩
  | true =>
    cases k3 : e.fKind == 3 with
    | true => exact ⟨_, Ev.bind l1 (Ev.cf rfl (Ev.ct rfl (Ev.bind (vfriends_ev hr hl hd u e.fUser) Ev.pure))), Ev.bind l2 (Ev.cf rfl (Ev.ct rfl (Ev.bind (rfriends_ev hr hl hd u e.fUser) Ev.pure)))⟩
    | false =>
      have j1 := jv hr hl hd u e.fRoom
      have j2 := jr hr hl hd u e.fRoom
      cases kj : jb w u e.fRoom with
      | false =>
        rw [kj] at j1 j2
        exact ⟨false, Ev.bind l1 (Ev.cf rfl (Ev.cf rfl (Ev.bind j1 Ev.pure))), Ev.bind l2 (Ev.cf rfl (Ev.cf rfl (Ev.bind j2 Ev.pure)))⟩
      | true =>
        rw [kj] at j1 j2
        cases kp : e.fPrivate with
        | false => exact ⟨true, Ev.bind l1 (Ev.cf rfl (Ev.cf rfl (Ev.bind j1 (Ev.ct rfl (Ev.ct (by simp) Ev.pure))))), Ev.bind l2 (Ev.cf rfl (Ev.cf rfl (Ev.bind j2 (Ev.ct rfl (Ev.ct (by simp) Ev.pure)))))⟩
        | true => exact ⟨decide (e.fUser = u), Ev.bind l1 (Ev.cf rfl (Ev.cf rfl (Ev.bind j1 (Ev.ct rfl (Ev.cf (by simp) Ev.pure))))), Ev.bind l2 (Ev.cf rfl (Ev.cf rfl (Ev.bind j2 (Ev.ct rfl (Ev.cf (by simp) (Ev.of (by congr 1; rw [Bool.eq_iff_iff]; simp [eq_comm])))))))⟩
theorem passes_both (to : ByteArray) {e : Edu} (z : Zz e) : ∃ b, Ev (fun k => gate_Passes.f k v to e) b ∧ Ev (fun k => concourseref16_Passes.f k w to e) b := by
  obtain ⟨b, l1, l2, _⟩ := may_both z
  unfold gate_Passes.f gate_reached.f concourseref16_Passes.f
  cases b with
  | false => exact ⟨false, Ev.bind (a := []) (Ev.bind l1 Ev.pure) (Ev.bind (contains2 (l := []) (by simp)) Ev.pure), Ev.bind l2 Ev.pure⟩
  | true =>
    cases k3 : e.fKind == 3 with
    | true =>
      obtain ⟨P, p1, p2, p3⟩ := peers_both hr hl hd e.fUser
      exact ⟨inB P to, Ev.bind (a := P) (Ev.bind l1 (Ev.cf rfl (Ev.ct rfl (Ev.bind p1 Ev.pure)))) (Ev.bind (contains2 p3) Ev.pure), Ev.bind l2 (Ev.cf rfl (Ev.ct rfl (Ev.bind p2 (Ev.bind (has2 p3) Ev.pure))))⟩
    | false =>
      obtain ⟨P, p1, p2, _, p3⟩ := sv hr hl hd e.fRoom
      exact ⟨inB P to, Ev.bind (a := P) (Ev.bind l1 (Ev.cf rfl (Ev.cf rfl (Ev.bind p1 Ev.pure)))) (Ev.bind (contains2 (by omega)) Ev.pure), Ev.bind l2 (Ev.cf rfl (Ev.cf rfl (Ev.bind p2 (Ev.bind (has2 (by omega)) Ev.pure))))⟩
theorem accept_both (o : ByteArray) {e : Edu} (z : Zz e) : ∃ b, Ev (fun k => gate_Accept.f k v o e) b ∧ Ev (fun k => concourseref16_Accept.f k w o e) b := by
  obtain ⟨b, l1, l2, _⟩ := may_both z
  unfold gate_Accept.f concourseref16_Accept.f
  cases b with
  | false => exact ⟨1, Ev.bind l1 Ev.pure, Ev.bind l2 Ev.pure⟩
  | true =>
    have m1 := home1 z.user
    have m2 := home2 z.user
    by_cases ho : homeB e.fUser = o
    · cases k3 : e.fKind == 3 with
      | true =>
        have r1 := vroomsof_ev hr hl hd e.fUser
        have r2 := rroomsof_ev hr hl hd e.fUser
        cases kr : ((rof w e.fUser).length : Int) == 0 with
        | true => exact ⟨5, Ev.bind l1 (Ev.cf rfl (Ev.bind m1 (Ev.cf (by simp [ho]) (Ev.ct rfl (Ev.bind r1 (Ev.ct kr (Ev.ct kr Ev.pure))))))), Ev.bind l2 (Ev.cf rfl (Ev.bind m2 (Ev.cf (by simp [ho]) (Ev.ct rfl (Ev.bind r2 (Ev.ct kr Ev.pure))))))⟩
        | false => exact ⟨0, Ev.bind l1 (Ev.cf rfl (Ev.bind m1 (Ev.cf (by simp [ho]) (Ev.ct rfl (Ev.bind r1 (Ev.cf kr (Ev.cf (by simp [bne, k3]) Ev.pure))))))), Ev.bind l2 (Ev.cf rfl (Ev.bind m2 (Ev.cf (by simp [ho]) (Ev.ct rfl (Ev.bind r2 (Ev.cf kr Ev.pure))))))⟩
      | false =>
        have j1 := jv hr hl hd e.fUser e.fRoom
        have j2 := jr hr hl hd e.fUser e.fRoom
        cases kj : jb w e.fUser e.fRoom with
        | false =>
          rw [kj] at j1 j2
          exact ⟨5, Ev.bind l1 (Ev.cf rfl (Ev.bind m1 (Ev.cf (by simp [ho]) (Ev.cf rfl (Ev.ct (by simp [bne, k3]) (Ev.bind j1 (Ev.ct rfl Ev.pure))))))), Ev.bind l2 (Ev.cf rfl (Ev.bind m2 (Ev.cf (by simp [ho]) (Ev.cf rfl (Ev.bind j2 (Ev.ct rfl Ev.pure))))))⟩
        | true =>
          rw [kj] at j1 j2
          exact ⟨0, Ev.bind l1 (Ev.cf rfl (Ev.bind m1 (Ev.cf (by simp [ho]) (Ev.cf rfl (Ev.ct (by simp [bne, k3]) (Ev.bind j1 (Ev.cf rfl Ev.pure))))))), Ev.bind l2 (Ev.cf rfl (Ev.bind m2 (Ev.cf (by simp [ho]) (Ev.cf rfl (Ev.bind j2 (Ev.cf rfl Ev.pure))))))⟩
    · exact ⟨6, Ev.bind l1 (Ev.cf rfl (Ev.bind m1 (Ev.ct (by simp [ho]) Ev.pure))), Ev.bind l2 (Ev.cf rfl (Ev.bind m2 (Ev.ct (by simp [ho]) Ev.pure)))⟩
end
/-! the document's example -/
def rmG : ByteArray := ⟨#[33, 114, 58, 115]⟩
def gA : Event := ⟨⟨#[36, 97]⟩, rmG, [], ⟨#[]⟩, ⟨#[64, 97, 58, 115]⟩, 1⟩
def gB : Event := ⟨⟨#[36, 98]⟩, rmG, [], ⟨#[]⟩, ⟨#[64, 98, 58, 116]⟩, 1⟩
def wG : RView := ⟨[⟨rmG, [gA, gB]⟩]⟩
def xG : Edu := ⟨2, rmG, ⟨#[64, 97, 58, 115]⟩, ⟨#[]⟩, ⟨#[]⟩, false, true, 5, 0, 0, 0⟩
theorem lives_ev : Ev (fun k => concourselaw16_lives.f k) true := by
  have okA : Event.ok gA := by
    refine ⟨show 2 ≤ maxLen by decide, show 4 ≤ maxLen by decide, ⟨Nat.zero_le _, fun x hx => by cases hx⟩, Nat.zero_le _, show 4 ≤ maxLen by decide, rfl, trivial⟩
  have okB : Event.ok gB := by
    refine ⟨show 2 ≤ maxLen by decide, show 4 ≤ maxLen by decide, ⟨Nat.zero_le _, fun x hx => by cases hx⟩, Nat.zero_le _, show 4 ≤ maxLen by decide, rfl, trivial⟩
  have rA : Ev (fun k => concourseref10_Add.f k ⟨[]⟩ gA) (⟨[⟨rmG, [gA]⟩]⟩, 0) := Ev.add 40 fun m => by kernel_rfl
  have rB : Ev (fun k => concourseref10_Add.f k ⟨[⟨rmG, [gA]⟩]⟩ gB) (wG, 0) := Ev.add 40 fun m => by kernel_rfl
  obtain ⟨v1, w1, a1, a2, a3, _⟩ := viewAdd relV_new okA (by simp) (by simp [ofR])
  obtain ⟨rfl, ec⟩ := Prod.mk.inj (a2.uniq rA)
  rw [ec] at a1
  obtain ⟨v2, w2, b1, b2, b3, _⟩ := viewAdd a3 okB (by simp) (by unfold ofR; simp only [List.find?]; split <;> simp)
  obtain ⟨rfl, ec2⟩ := Prod.mk.inj (b2.uniq rB)
  rw [ec2] at b1
  have hl : wG.fD.length ≤ 50 := by decide
  have hd : ∀ room, (ofR wG room).fL.length ≤ 1000 := fun room => by
    unfold ofR wG; simp only [List.find?]; split <;> simp
  have z : Zz xG := ⟨show 4 ≤ maxLen by decide, show 4 ≤ maxLen by decide, Nat.zero_le _, Nat.zero_le _⟩
  obtain ⟨p, p1, p2⟩ := passes_both b3 hl hd ⟨#[116]⟩ z
  obtain ⟨q, q1, q2⟩ := passes_both b3 hl hd ⟨#[117]⟩ z
  obtain ⟨r, r1, r2⟩ := accept_both b3 hl hd ⟨#[115]⟩ z
  have ep : Ev (fun k => concourseref16_Passes.f k wG ⟨#[116]⟩ xG) true := Ev.add 40 fun m => by kernel_rfl
  have eq : Ev (fun k => concourseref16_Passes.f k wG ⟨#[117]⟩ xG) false := Ev.add 40 fun m => by kernel_rfl
  have er : Ev (fun k => concourseref16_Accept.f k wG ⟨#[115]⟩ xG) 0 := Ev.add 40 fun m => by kernel_rfl
  obtain rfl := p2.uniq ep
  obtain rfl := q2.uniq eq
  obtain rfl := r2.uniq er
  unfold concourselaw16_lives.f
  exact Ev.bind (Ev.of rfl) (Ev.bind a1 (Ev.bind b1 (Ev.bind p1 (Ev.ct rfl (Ev.bind q1 (Ev.ct rfl (Ev.bind r1 Ev.pure)))))))
end Go.Proofs.YtdhaolcplgbalaaGreat
