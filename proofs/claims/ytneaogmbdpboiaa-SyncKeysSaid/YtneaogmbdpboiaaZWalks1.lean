/- The walks: each Go function that the law comes to, beside a plain function of its own. -/
import Derived.Test.YtneaogmbdpboiaaZJoin
import Derived.Test.YtneaogmbdpboiaaChecked
import Derived.Eval
set_option linter.all false
set_option maxRecDepth 10000
namespace Go.Proofs.Ytneaogmbdpboiaa
open Go Go.Sp
theorem c23 : Try.prog.cellsOf 23 = 4 := by kernel_rfl
theorem c25 : Try.prog.cellsOf 25 = 2 := by kernel_rfl
theorem c27 : Try.prog.cellsOf 27 = 6 := by kernel_rfl
theorem c3 : Try.prog.cellsOf 3 = 1 := by kernel_rfl
theorem c4 : Try.prog.cellsOf 4 = 1 := by kernel_rfl
theorem c5 : Try.prog.cellsOf 5 = 1 := by kernel_rfl
theorem c9 : Try.prog.cellsOf 9 = 1 := by kernel_rfl
theorem cal10 : callable Try.prog 10 = true := by kernel_rfl
theorem cal11 : callable Try.prog 11 = true := by kernel_rfl
theorem cal12 : callable Try.prog 12 = true := by kernel_rfl
theorem cal13 : callable Try.prog 13 = true := by kernel_rfl
theorem cal14 : callable Try.prog 14 = true := by kernel_rfl
theorem cal15 : callable Try.prog 15 = true := by kernel_rfl
theorem cal16 : callable Try.prog 16 = true := by kernel_rfl
theorem cal17 : callable Try.prog 17 = true := by kernel_rfl
theorem cal4 : callable Try.prog 4 = true := by kernel_rfl
theorem cal5 : callable Try.prog 5 = true := by kernel_rfl
theorem cal6 : callable Try.prog 6 = true := by kernel_rfl
theorem cal7 : callable Try.prog 7 = true := by kernel_rfl
theorem cal8 : callable Try.prog 8 = true := by kernel_rfl
theorem cal9 : callable Try.prog 9 = true := by kernel_rfl
theorem eg23 : Try.prog.eqGuardType Try.prog.depth 23 = false := by kernel_rfl
theorem pl23 : plcT Try.prog 23 = true := by kernel_rfl
theorem pl25 : plcT Try.prog 25 = true := by kernel_rfl
theorem pl27 : plcT Try.prog 27 = true := by kernel_rfl
theorem pl30 : plcT Try.prog 30 = true := by kernel_rfl
theorem pl34 : plcT Try.prog 34 = true := by kernel_rfl
theorem st23 : Try.prog.stoodInHeld 23 = false := by kernel_rfl
theorem z23 : zer Try.prog 23 = some (.agg #[.string ⟨#[]⟩, .string ⟨#[]⟩, .string ⟨#[]⟩, .bool false]) := by kernel_rfl
theorem z25 : zer Try.prog 25 = some (.agg #[.int .i64 0, .string ⟨#[]⟩]) := by kernel_rfl
theorem z27 : zer Try.prog 27 = some (.agg #[.string ⟨#[]⟩, .string ⟨#[]⟩, .string ⟨#[]⟩, .bool false, .int .i64 0, .string ⟨#[]⟩]) := by kernel_rfl
theorem z30 : zer Try.prog 30 = some (.agg #[.string ⟨#[]⟩, .string ⟨#[]⟩, .string ⟨#[]⟩, .bool false]) := by kernel_rfl
theorem z34 : zer Try.prog 34 = some (.agg #[.int .i64 0, .string ⟨#[]⟩, .string ⟨#[]⟩, .string ⟨#[]⟩, .bool false, .string ⟨#[]⟩]) := by kernel_rfl
theorem z5 : zer Try.prog 5 = some (.int .u8 0) := by kernel_rfl
theorem z9 : zer Try.prog 9 = some (.string ⟨#[]⟩) := by kernel_rfl
structure SRooUseThrPri where
  fRoom : ByteArray
  fUser : ByteArray
  fThread : ByteArray
  fPrivate : Bool
  deriving DecidableEq, Inhabited
def SRooUseThrPri.enc (x : SRooUseThrPri) : Cs := [eq (.string x.fRoom), eq (.string x.fUser), eq (.string x.fThread), eq (.bool x.fPrivate)]
def SRooUseThrPri.K : Kd SRooUseThrPri := ⟨4, default, SRooUseThrPri.enc, fun _ => rfl, fun _ => (ones_cons (one_eq rfl) (ones_cons (one_eq rfl) (ones_cons (one_eq rfl) (ones_cons (one_eq rfl) ones_nil))))⟩
structure SDepID where
  fDepth : Int
  fID : ByteArray
  deriving DecidableEq, Inhabited
def SDepID.enc (x : SDepID) : Cs := [eq (.int .i64 x.fDepth), eq (.string x.fID)]
def SDepID.K : Kd SDepID := ⟨2, default, SDepID.enc, fun _ => rfl, fun _ => (ones_cons (one_eq rfl) (ones_cons (one_eq rfl) ones_nil))⟩
structure SKAt where
  fK : SRooUseThrPri
  fAt : SDepID
  deriving DecidableEq, Inhabited
def SKAt.enc (x : SKAt) : Cs := [eq (.string x.fK.fRoom), eq (.string x.fK.fUser), eq (.string x.fK.fThread), eq (.bool x.fK.fPrivate), eq (.int .i64 x.fAt.fDepth), eq (.string x.fAt.fID)]
def SKAt.K : Kd SKAt := ⟨6, default, SKAt.enc, fun _ => rfl, fun _ => (ones_cons (one_eq rfl) (ones_cons (one_eq rfl) (ones_cons (one_eq rfl) (ones_cons (one_eq rfl) (ones_cons (one_eq rfl) (ones_cons (one_eq rfl) ones_nil))))))⟩
structure SKinKNam where
  fKind : Int
  fK : SRooUseThrPri
  fName : ByteArray
  deriving DecidableEq, Inhabited
def SKinKNam.enc (x : SKinKNam) : Cs := [eq (.int .i64 x.fKind), eq (.string x.fK.fRoom), eq (.string x.fK.fUser), eq (.string x.fK.fThread), eq (.bool x.fK.fPrivate), eq (.string x.fName)]
def SKinKNam.K : Kd SKinKNam := ⟨6, default, SKinKNam.enc, fun _ => rfl, fun _ => (ones_cons (one_eq rfl) (ones_cons (one_eq rfl) (ones_cons (one_eq rfl) (ones_cons (one_eq rfl) (ones_cons (one_eq rfl) (ones_cons (one_eq rfl) ones_nil))))))⟩
def SRooUseThrPri.ok (x : SRooUseThrPri) : Prop := (fun s : ByteArray => s.size ≤ maxLen) x.fRoom ∧ (fun s : ByteArray => s.size ≤ maxLen) x.fUser ∧ (fun s : ByteArray => s.size ≤ maxLen) x.fThread ∧ (fun _ => True) x.fPrivate ∧ True
def SDepID.ok (x : SDepID) : Prop := (fun n => (Lit.int .i64 n).wf = true) x.fDepth ∧ (fun s : ByteArray => s.size ≤ maxLen) x.fID ∧ True
def SKAt.ok (x : SKAt) : Prop := SRooUseThrPri.ok x.fK ∧ SDepID.ok x.fAt ∧ True
def SKinKNam.ok (x : SKinKNam) : Prop := (fun n => (Lit.int .i64 n).wf = true) x.fKind ∧ SRooUseThrPri.ok x.fK ∧ (fun s : ByteArray => s.size ≤ maxLen) x.fName ∧ True
theorem eqt23 (x y : SRooUseThrPri) {d : Nat} {w : World} : (Op.equalIn (d + 2) 23 (.agg [.string x.fRoom, .string x.fUser, .string x.fThread, .bool x.fPrivate].toArray) (.agg [.string y.fRoom, .string y.fUser, .string y.fThread, .bool y.fPrivate].toArray)).run Try.prog w = .ok (decide (x = y)) w := by
  have e : decide (x = y) = ((decide (x.fRoom = y.fRoom) && (decide (x.fUser = y.fUser) && (decide (x.fThread = y.fThread) && (decide (x.fPrivate = y.fPrivate) && true))))) := by cases x; cases y; rw [Bool.eq_iff_iff]; simp
  rw [e]
  exact eq_struct Try.underlying23 st23 (eqF_cons (by decide) (run_part1 Try.underlying9 rfl rfl) (run_part1 Try.underlying9 rfl rfl) (eq_str Try.underlying9) (eqF_cons (by decide) (run_part1 Try.underlying9 rfl rfl) (run_part1 Try.underlying9 rfl rfl) (eq_str Try.underlying9) (eqF_cons (by decide) (run_part1 Try.underlying9 rfl rfl) (run_part1 Try.underlying9 rfl rfl) (eq_str Try.underlying9) (eqF_cons (by decide) (run_part1 Try.underlying4 rfl rfl) (run_part1 Try.underlying4 rfl rfl) (eq_bool Try.underlying4) eqF_nil))))
/-! concourse/concourseref01.Around: function 13 -/
def concourseref01_Around.f (a0 : Int) (a1 : Int) : Option (Int) := cond (decide (a0 < 0)) (grd (a1 ≠ 0) (some ((w64 (0 - (w64 (a0 + 1)))).tmod a1))) (grd (a1 ≠ 0) (some (a0.tmod a1)))
theorem concourseref01_Around.c {a0 : Int} {a1 : Int} {r : Int} (h : concourseref01_Around.f a0 a1 = some r) : Pt Try.prog 13 [eq (.int .i64 a0), eq (.int .i64 a1)] (eq (.int .i64 r)) := by
  unfold concourseref01_Around.f at h
  refine (Tr.body Try.func13 (c := _) rfl Try.ntmps13 (Nat.le_of_ble_eq_true rfl) fun R0 F => ?_).pt
  replace h := Gets.of h
  have H := h
  clear h
  refine WP.seq ?_
  refine WP.reg [(0, false)] (by kernel_rfl) ?_
  refine Dv.asg rfl trivial rfl ?_
  refine .fin ?_
  refine WP.seq ?_
  refine WP.seq ?_
  refine WP.reg [(0, false), (1, false)] (by kernel_rfl) ?_
  refine Dv.mv rfl trivial rfl ?_
  refine Dv.bin rfl trivial rfl rfl (fun _ => run_lt) ?_
  refine .fin ?_
  refine WP.cond rfl (fun c1 => ?_) (fun c1 => ?_)
  · replace H := Gets.ct H c1
    refine WP.reg [(0, false), (1, false), (2, false), (3, false)] (by kernel_rfl) ?_
    refine Dv.mv rfl trivial rfl ?_
    refine Dv.bin rfl trivial rfl rfl (fun _ => run_add) ?_
    refine Dv.un rfl trivial rfl (fun _ => run_neg _ _) ?_
    refine Dv.asg rfl trivial rfl ?_
    refine .fin ?_
    refine WP.seq ?_
    refine WP.reg [(0, false), (1, false), (2, false), (3, false)] (by kernel_rfl) ?_
    refine Dv.mv rfl trivial rfl ?_
    refine Dv.mv rfl trivial rfl ?_
    obtain ⟨g2, H⟩ := Gets.grd H
    refine Dv.bin rfl trivial rfl rfl (fun _ => run_rem g2) ?_
    refine Dv.asg rfl trivial rfl ?_
    refine .fin ?_
    obtain rfl := Gets.out H
    exact WP.retL (fun _ _ h => h) rfl () trivial (.cons (res_tmp rfl) .nil) rfl (fun _ _ h => h)
  · replace H := Gets.cf H c1
    refine WP.skip ?_
    refine WP.seq ?_
    refine WP.reg [(0, false), (1, false), (2, false), (3, false)] (by kernel_rfl) ?_
    refine Dv.mv rfl trivial rfl ?_
    refine Dv.mv rfl trivial rfl ?_
    obtain ⟨g3, H⟩ := Gets.grd H
    refine Dv.bin rfl trivial rfl rfl (fun _ => run_rem g3) ?_
    refine Dv.asg rfl trivial rfl ?_
    refine .fin ?_
    obtain rfl := Gets.out H
    exact WP.retL (fun _ _ h => h) rfl () trivial (.cons (res_tmp rfl) .nil) rfl (fun _ _ h => h)
/-! concourse/concourseref01.RoomOf: function 6 -/
def concourseref01_RoomOf.f (a0 : Int) : Option (ByteArray) := (concourseref01_Around.f a0 2).bind fun t4 => grd (0 ≤ t4 ∧ t4 < (([(⟨#[33, 114, 58, 115, 49]⟩ : ByteArray), (⟨#[33, 113, 58, 115, 50]⟩ : ByteArray)] : List ByteArray).length : Int)) (some (strK.at ([(⟨#[33, 114, 58, 115, 49]⟩ : ByteArray), (⟨#[33, 113, 58, 115, 50]⟩ : ByteArray)] : List ByteArray) t4))
theorem concourseref01_RoomOf.c {a0 : Int} {r : ByteArray} (h : concourseref01_RoomOf.f a0 = some r) : Pt Try.prog 6 [eq (.int .i64 a0)] (eq (.string r)) := by
  unfold concourseref01_RoomOf.f at h
  refine (Tr.body Try.func6 (c := _) rfl Try.ntmps6 (Nat.le_of_ble_eq_true rfl) fun R0 F => ?_).pt
  replace h := Gets.of h
  have H := h
  clear h
  refine WP.seq ?_
  refine WP.reg [(0, false)] (by kernel_rfl) ?_
  refine Dv.asg rfl trivial rfl ?_
  refine .fin ?_
  refine WP.seq ?_
  refine WP.reg [(0, false), (1, false), (2, false), (3, false), (4, false), (5, false)] (by kernel_rfl) ?_
  refine Dv.lit strK ([(⟨#[33, 114, 58, 115, 49]⟩ : ByteArray), (⟨#[33, 113, 58, 115, 50]⟩ : ByteArray)] : List ByteArray) (css := [[eq (.string (⟨#[33, 114, 58, 115, 49]⟩ : ByteArray))], [eq (.string (⟨#[33, 113, 58, 115, 50]⟩ : ByteArray))]]) rfl trivial Try.underlying40 Try.underlying9 c9 z9 rfl (by decide) (by decide) rfl ⟨(cells_one (one_eq rfl)), ⟨(cells_one (one_eq rfl)), trivial⟩⟩ rfl rfl rfl ?_
  refine Dv.mv rfl trivial rfl ?_
  obtain ⟨t4, h5, H⟩ := Gets.call H
  refine Dv.call rfl trivial cal13 rfl (concourseref01_Around.c h5) ?_
  obtain ⟨g6, H⟩ := Gets.grd H
  refine Dv.ixr rfl trivial rfl rfl Try.underlying40 Try.underlying9 c9 g6.1 g6.2 ?_
  refine Dv.ldr rfl trivial rfl Try.underlying9 rfl rfl ?_
  refine Dv.asg rfl trivial rfl ?_
  refine .fin ?_
  obtain rfl := Gets.out H
  exact WP.retL (fun _ _ h => h) rfl () trivial (.cons (res_tmp rfl) .nil) rfl (fun _ _ h => h)
/-! concourse/concourseref01.ServerOf: function 16 -/
def concourseref01_ServerOf.f (a0 : Int) : Option (ByteArray) := (concourseref01_Around.f a0 3).bind fun t7 => grd (0 ≤ t7 ∧ t7 < (([(⟨#[115, 49]⟩ : ByteArray), (⟨#[115, 50]⟩ : ByteArray), (⟨#[115, 51]⟩ : ByteArray)] : List ByteArray).length : Int)) (some (strK.at ([(⟨#[115, 49]⟩ : ByteArray), (⟨#[115, 50]⟩ : ByteArray), (⟨#[115, 51]⟩ : ByteArray)] : List ByteArray) t7))
theorem concourseref01_ServerOf.c {a0 : Int} {r : ByteArray} (h : concourseref01_ServerOf.f a0 = some r) : Pt Try.prog 16 [eq (.int .i64 a0)] (eq (.string r)) := by
  unfold concourseref01_ServerOf.f at h
  refine (Tr.body Try.func16 (c := _) rfl Try.ntmps16 (Nat.le_of_ble_eq_true rfl) fun R0 F => ?_).pt
  replace h := Gets.of h
  have H := h
  clear h
  refine WP.seq ?_
  refine WP.reg [(0, false)] (by kernel_rfl) ?_
  refine Dv.asg rfl trivial rfl ?_
  refine .fin ?_
  refine WP.seq ?_
  refine WP.reg [(0, false), (1, false), (2, false), (3, false), (4, false), (5, false)] (by kernel_rfl) ?_
  refine Dv.lit strK ([(⟨#[115, 49]⟩ : ByteArray), (⟨#[115, 50]⟩ : ByteArray), (⟨#[115, 51]⟩ : ByteArray)] : List ByteArray) (css := [[eq (.string (⟨#[115, 49]⟩ : ByteArray))], [eq (.string (⟨#[115, 50]⟩ : ByteArray))], [eq (.string (⟨#[115, 51]⟩ : ByteArray))]]) rfl trivial Try.underlying40 Try.underlying9 c9 z9 rfl (by decide) (by decide) rfl ⟨(cells_one (one_eq rfl)), ⟨(cells_one (one_eq rfl)), ⟨(cells_one (one_eq rfl)), trivial⟩⟩⟩ rfl rfl rfl ?_
  refine Dv.mv rfl trivial rfl ?_
  obtain ⟨t7, h8, H⟩ := Gets.call H
  refine Dv.call rfl trivial cal13 rfl (concourseref01_Around.c h8) ?_
  obtain ⟨g9, H⟩ := Gets.grd H
  refine Dv.ixr rfl trivial rfl rfl Try.underlying40 Try.underlying9 c9 g9.1 g9.2 ?_
  refine Dv.ldr rfl trivial rfl Try.underlying9 rfl rfl ?_
  refine Dv.asg rfl trivial rfl ?_
  refine .fin ?_
  obtain rfl := Gets.out H
  exact WP.retL (fun _ _ h => h) rfl () trivial (.cons (res_tmp rfl) .nil) rfl (fun _ _ h => h)
/-! concourse/concourseref01.UserOf: function 7 -/
def concourseref01_UserOf.f (a0 : Int) : Option (ByteArray) := (concourseref01_Around.f a0 9).bind fun t10 => grd (0 ≤ (w64 (t10.tdiv 3)) ∧ (w64 (t10.tdiv 3)) < (([(⟨#[64, 97, 58]⟩ : ByteArray), (⟨#[64, 98, 58]⟩ : ByteArray), (⟨#[64, 99, 58]⟩ : ByteArray)] : List ByteArray).length : Int)) ((concourseref01_ServerOf.f (t10.tmod 3)).bind fun t13 => grd ((strK.at ([(⟨#[64, 97, 58]⟩ : ByteArray), (⟨#[64, 98, 58]⟩ : ByteArray), (⟨#[64, 99, 58]⟩ : ByteArray)] : List ByteArray) (w64 (t10.tdiv 3))).size + t13.size ≤ 9223372036854775807) (some ((strK.at ([(⟨#[64, 97, 58]⟩ : ByteArray), (⟨#[64, 98, 58]⟩ : ByteArray), (⟨#[64, 99, 58]⟩ : ByteArray)] : List ByteArray) (w64 (t10.tdiv 3))) ++ t13)))
theorem concourseref01_UserOf.c {a0 : Int} {r : ByteArray} (h : concourseref01_UserOf.f a0 = some r) : Pt Try.prog 7 [eq (.int .i64 a0)] (eq (.string r)) := by
  unfold concourseref01_UserOf.f at h
  refine (Tr.body Try.func7 (c := _) rfl Try.ntmps7 (Nat.le_of_ble_eq_true rfl) fun R0 F => ?_).pt
  replace h := Gets.of h
  have H := h
  clear h
  refine WP.seq ?_
  refine WP.reg [(0, false)] (by kernel_rfl) ?_
  refine Dv.asg rfl trivial rfl ?_
  refine .fin ?_
  refine WP.seq ?_
  refine WP.reg [(0, false), (1, false), (2, false)] (by kernel_rfl) ?_
  refine Dv.mv rfl trivial rfl ?_
  obtain ⟨t10, h11, H⟩ := Gets.call H
  refine Dv.call rfl trivial cal13 rfl (concourseref01_Around.c h11) ?_
  refine Dv.asg rfl trivial rfl ?_
  refine .fin ?_
  refine WP.seq ?_
  refine WP.dreg Try.checked.mixed [(0, false), (1, false), (2, false), (3, false), (4, false), (5, false), (6, false), (7, false), (8, false), (9, false)] (by kernel_rfl) ?_
  refine Dv.lit strK ([(⟨#[64, 97, 58]⟩ : ByteArray), (⟨#[64, 98, 58]⟩ : ByteArray), (⟨#[64, 99, 58]⟩ : ByteArray)] : List ByteArray) (css := [[eq (.string (⟨#[64, 97, 58]⟩ : ByteArray))], [eq (.string (⟨#[64, 98, 58]⟩ : ByteArray))], [eq (.string (⟨#[64, 99, 58]⟩ : ByteArray))]]) rfl trivial Try.underlying40 Try.underlying9 c9 z9 rfl (by decide) (by decide) rfl ⟨(cells_one (one_eq rfl)), ⟨(cells_one (one_eq rfl)), ⟨(cells_one (one_eq rfl)), trivial⟩⟩⟩ rfl rfl rfl ?_
  refine Dv.mv rfl trivial rfl ?_
  refine Dv.bin rfl trivial rfl rfl (fun _ => run_quo (by decide)) ?_
  obtain ⟨g12, H⟩ := Gets.grd H
  refine Dv.ixr rfl trivial rfl rfl Try.underlying40 Try.underlying9 c9 g12.1 g12.2 ?_
  refine Dv.ldr rfl trivial rfl Try.underlying9 rfl rfl ?_
  refine Dv.mv rfl trivial rfl ?_
  refine Dv.bin rfl trivial rfl rfl (fun _ => run_rem (by decide)) ?_
  obtain ⟨t13, h14, H⟩ := Gets.call H
  refine Dv.call rfl trivial cal16 rfl (concourseref01_ServerOf.c h14) ?_
  obtain ⟨g15, H⟩ := Gets.grd H
  refine Dv.bin rfl trivial rfl rfl (fun _ => run_cat g15) ?_
  refine Dv.asg rfl trivial rfl ?_
  refine .fin ?_
  obtain rfl := Gets.out H
  exact WP.retL (fun _ _ h => h) rfl () trivial (.cons (res_tmp rfl) .nil) rfl (fun _ _ h => h)
/-! concourse/concourseref01.Decimal: function 17 -/
def concourseref01_Decimal.f : Nat → Int → Option (ByteArray)
  | 0, _ => none
  | k + 1, a0 => (cond (decide ((a0.tmod 10) < 0)) (some (w64 (0 - (a0.tmod 10)))) (some (a0.tmod 10))).bind fun (p16 : Int) => cond (decide ((-10) < a0)) (cond (decide (a0 < 10)) (cond (decide (a0 < 0)) (grd ((⟨#[45]⟩ : ByteArray).size + (ofNums ([IntKind.u8.wrap (w64 (48 + p16))] : List Int)).size ≤ 9223372036854775807) (some ((⟨#[45]⟩ : ByteArray) ++ (ofNums ([IntKind.u8.wrap (w64 (48 + p16))] : List Int))))) (some (ofNums ([IntKind.u8.wrap (w64 (48 + p16))] : List Int)))) ((concourseref01_Decimal.f k (w64 (a0.tdiv 10))).bind fun t21 => grd (t21.size + (ofNums ([IntKind.u8.wrap (w64 (48 + p16))] : List Int)).size ≤ 9223372036854775807) (some (t21 ++ (ofNums ([IntKind.u8.wrap (w64 (48 + p16))] : List Int)))))) ((concourseref01_Decimal.f k (w64 (a0.tdiv 10))).bind fun t25 => grd (t25.size + (ofNums ([IntKind.u8.wrap (w64 (48 + p16))] : List Int)).size ≤ 9223372036854775807) (some (t25 ++ (ofNums ([IntKind.u8.wrap (w64 (48 + p16))] : List Int)))))
theorem concourseref01_Decimal.c : ∀ (k : Nat) {a0 : Int} {r : ByteArray} (h : concourseref01_Decimal.f k a0 = some r), Pt Try.prog 17 [eq (.int .i64 a0)] (eq (.string r))
  | 0, _, _, h => by cases h
  | k + 1, a0, r, h => by
    rw [concourseref01_Decimal.f] at h
    refine (Tr.body Try.func17 (c := _) rfl Try.ntmps17 (Nat.le_of_ble_eq_true rfl) fun R0 F => ?_).pt
    replace h := Gets.of h
    have H := h
    clear h
    refine WP.seq ?_
    refine WP.reg [(0, false)] (by kernel_rfl) ?_
    refine Dv.asg rfl trivial rfl ?_
    refine .fin ?_
    refine WP.seq ?_
    refine WP.reg [(0, false), (1, false), (2, false)] (by kernel_rfl) ?_
    refine Dv.mv rfl trivial rfl ?_
    refine Dv.bin rfl trivial rfl rfl (fun _ => run_rem (by decide)) ?_
    refine Dv.asg rfl trivial rfl ?_
    refine .fin ?_
    refine WP.seqn H id (fun p16 : Int => [(0, eq (.int .i64 a0)), (2, eq (.string (⟨#[]⟩ : ByteArray))), (3, eq (.int .i64 p16)), (8, eq (.bool (decide ((a0.tmod 10) < 0))))]) (fun p16 : Int => [] ++ F) (fun p16 H => ?_) (fun H => ?_)
    · refine WP.seq ?_
      refine WP.reg [(0, false), (1, false), (2, false), (3, false), (4, false), (5, false)] (by kernel_rfl) ?_
      refine Dv.mv rfl trivial rfl ?_
      refine Dv.bin rfl trivial rfl rfl (fun _ => run_add) ?_
      refine Dv.cvi rfl trivial rfl Try.underlying3 Try.underlying5 ?_
      refine Dv.lit (intK .u8) ([IntKind.u8.wrap (w64 (48 + p16))] : List Int) (css := [[eq (.int .u8 (IntKind.u8.wrap (w64 (48 + p16))))]]) rfl trivial Try.underlying42 Try.underlying5 c5 z5 rfl (by decide) (by decide) rfl ⟨(cells_one (one_eq rfl)), trivial⟩ rfl rfl rfl ?_
      refine Dv.cvbs rfl trivial rfl Try.underlying42 Try.underlying5 Try.underlying9 ?_
      refine Dv.asg rfl trivial rfl ?_
      refine .fin ?_
      refine WP.seq ?_
      refine WP.seq ?_
      refine WP.reg [(0, false), (1, false), (2, false), (3, false), (4, false), (5, false)] (by kernel_rfl) ?_
      refine Dv.mv rfl trivial rfl ?_
      refine Dv.bin rfl trivial rfl rfl (fun _ => run_gt) ?_
      refine Dv.mv rfl trivial rfl ?_
      cases c17 : decide ((-10) < a0)
      · replace H := Gets.cf H c17
        refine Dv.skip rfl ⟨_, _, rfl, rfl, rfl⟩ ?_
        refine Dv.skip rfl ⟨_, _, rfl, rfl, rfl⟩ ?_
        refine Dv.pickF rfl trivial rfl rfl ?_
        refine .fin ?_
        refine WP.cond rfl nofun (fun _ => ?_)
        refine WP.skip ?_
        refine WP.seq ?_
        refine WP.reg [(0, false), (1, false), (2, false), (3, false), (4, false), (5, false)] (by kernel_rfl) ?_
        refine Dv.mv rfl trivial rfl ?_
        refine Dv.bin rfl trivial rfl rfl (fun _ => run_quo (by decide)) ?_
        obtain ⟨t25, h26, H⟩ := Gets.call H
        refine Dv.call rfl trivial cal17 rfl (concourseref01_Decimal.c k h26) ?_
        refine Dv.mv rfl trivial rfl ?_
        obtain ⟨g27, H⟩ := Gets.grd H
        refine Dv.bin rfl trivial rfl rfl (fun _ => run_cat g27) ?_
        refine Dv.asg rfl trivial rfl ?_
        refine .fin ?_
        obtain rfl := Gets.out H
        exact WP.retL (fun _ _ h => h) rfl () trivial (.cons (res_tmp rfl) .nil) rfl (fun _ _ h => h)
      · replace H := Gets.ct H c17
        refine Dv.mv rfl ⟨_, _, rfl, rfl, rfl⟩ rfl ?_
        refine Dv.bin rfl ⟨_, _, rfl, rfl, rfl⟩ rfl rfl (fun _ => run_lt) ?_
        refine Dv.pickT rfl trivial rfl rfl ?_
        refine .fin ?_
        refine WP.cond rfl (fun c18 => ?_) (fun c18 => ?_)
        · replace H := Gets.ct H c18
          refine WP.seq ?_
          refine WP.seq ?_
          refine WP.reg [(0, false), (1, false)] (by kernel_rfl) ?_
          refine Dv.mv rfl trivial rfl ?_
          refine Dv.bin rfl trivial rfl rfl (fun _ => run_lt) ?_
          refine .fin ?_
          refine WP.cond rfl (fun c19 => ?_) (fun c19 => ?_)
          · replace H := Gets.ct H c19
            refine WP.seq ?_
            refine WP.reg [(0, false), (1, false), (2, false)] (by kernel_rfl) ?_
            refine Dv.mv rfl trivial rfl ?_
            obtain ⟨g20, H⟩ := Gets.grd H
            refine Dv.bin rfl trivial rfl rfl (fun _ => run_cat g20) ?_
            refine Dv.asg rfl trivial rfl ?_
            refine .fin ?_
            obtain rfl := Gets.out H
            exact WP.retL (fun _ _ h => h) rfl () trivial (.cons (res_tmp rfl) .nil) rfl (fun _ _ h => h)
          · replace H := Gets.cf H c19
            refine WP.skip ?_
            refine WP.seq ?_
            refine WP.reg [(0, false), (1, false)] (by kernel_rfl) ?_
            refine Dv.mv rfl trivial rfl ?_
            refine Dv.asg rfl trivial rfl ?_
            refine .fin ?_
            obtain rfl := Gets.out H
            exact WP.retL (fun _ _ h => h) rfl () trivial (.cons (res_tmp rfl) .nil) rfl (fun _ _ h => h)
        · replace H := Gets.cf H c18
          refine WP.skip ?_
          refine WP.seq ?_
          refine WP.reg [(0, false), (1, false), (2, false), (3, false), (4, false), (5, false)] (by kernel_rfl) ?_
          refine Dv.mv rfl trivial rfl ?_
          refine Dv.bin rfl trivial rfl rfl (fun _ => run_quo (by decide)) ?_
          obtain ⟨t21, h22, H⟩ := Gets.call H
          refine Dv.call rfl trivial cal17 rfl (concourseref01_Decimal.c k h22) ?_
          refine Dv.mv rfl trivial rfl ?_
          obtain ⟨g23, H⟩ := Gets.grd H
          refine Dv.bin rfl trivial rfl rfl (fun _ => run_cat g23) ?_
          refine Dv.asg rfl trivial rfl ?_
          refine .fin ?_
          obtain rfl := Gets.out H
          exact WP.retL (fun _ _ h => h) rfl () trivial (.cons (res_tmp rfl) .nil) rfl (fun _ _ h => h)
    · refine WP.seq ?_
      refine WP.reg [(0, false), (1, false)] (by kernel_rfl) ?_
      refine Dv.mv rfl trivial rfl ?_
      refine Dv.bin rfl trivial rfl rfl (fun _ => run_lt) ?_
      refine .fin ?_
      refine WP.cond rfl (fun c28 => ?_) (fun c28 => ?_)
      · replace H := Gets.ct H c28
        refine WP.reg [(0, false), (1, false), (2, false)] (by kernel_rfl) ?_
        refine Dv.mv rfl trivial rfl ?_
        refine Dv.un rfl trivial rfl (fun _ => run_neg _ _) ?_
        refine Dv.asg rfl trivial rfl ?_
        refine .fin ?_
        replace H := Gets.out H
        exact Jn.mk (w64 (0 - (a0.tmod 10))) H (weak_cons rfl (weak_cons rfl (weak_cons rfl (weak_cons rfl weak_nil)))) (List.Perm.refl _)
      · replace H := Gets.cf H c28
        refine WP.skip ?_
        replace H := Gets.out H
        exact Jn.mk (a0.tmod 10) H (weak_cons rfl (weak_cons rfl (weak_cons rfl (weak_cons rfl weak_nil)))) (List.Perm.refl _)
/-! concourse/concourseref01.EventOf: function 14 -/
def concourseref01_EventOf.f (k : Nat) (a0 : Int) : Option (ByteArray) := (concourseref01_Around.f a0 9).bind fun t29 => (concourseref01_Decimal.f k t29).bind fun t31 => grd ((⟨#[36, 101]⟩ : ByteArray).size + t31.size ≤ 9223372036854775807) (some ((⟨#[36, 101]⟩ : ByteArray) ++ t31))
theorem concourseref01_EventOf.c {k : Nat} {a0 : Int} {r : ByteArray} (h : concourseref01_EventOf.f k a0 = some r) : Pt Try.prog 14 [eq (.int .i64 a0)] (eq (.string r)) := by
  unfold concourseref01_EventOf.f at h
  refine (Tr.body Try.func14 (c := _) rfl Try.ntmps14 (Nat.le_of_ble_eq_true rfl) fun R0 F => ?_).pt
  replace h := Gets.of h
  have H := h
  clear h
  refine WP.seq ?_
  refine WP.reg [(0, false)] (by kernel_rfl) ?_
  refine Dv.asg rfl trivial rfl ?_
  refine .fin ?_
  refine WP.seq ?_
  refine WP.reg [(0, false), (1, false), (2, false), (3, false), (4, false)] (by kernel_rfl) ?_
  refine Dv.mv rfl trivial rfl ?_
  obtain ⟨t29, h30, H⟩ := Gets.call H
  refine Dv.call rfl trivial cal13 rfl (concourseref01_Around.c h30) ?_
  obtain ⟨t31, h32, H⟩ := Gets.call H
  refine Dv.call rfl trivial cal17 rfl (concourseref01_Decimal.c _ h32) ?_
  obtain ⟨g33, H⟩ := Gets.grd H
  refine Dv.bin rfl trivial rfl rfl (fun _ => run_cat g33) ?_
  refine Dv.asg rfl trivial rfl ?_
  refine .fin ?_
  obtain rfl := Gets.out H
  exact WP.retL (fun _ _ h => h) rfl () trivial (.cons (res_tmp rfl) .nil) rfl (fun _ _ h => h)
/-! concourse/concourseref01.ThreadOf: function 12 -/
def concourseref01_ThreadOf.f (k : Nat) (a0 : Int) : Option (ByteArray) := (concourseref01_Around.f a0 11).bind fun t34 => cond (t34 == 9) (some (⟨#[]⟩ : ByteArray)) (cond (t34 == 10) (some (⟨#[109, 97, 105, 110]⟩ : ByteArray)) ((concourseref01_EventOf.f k t34).bind fun t38 => some t38))
theorem concourseref01_ThreadOf.c {k : Nat} {a0 : Int} {r : ByteArray} (h : concourseref01_ThreadOf.f k a0 = some r) : Pt Try.prog 12 [eq (.int .i64 a0)] (eq (.string r)) := by
  unfold concourseref01_ThreadOf.f at h
  refine (Tr.body Try.func12 (c := _) rfl Try.ntmps12 (Nat.le_of_ble_eq_true rfl) fun R0 F => ?_).pt
  replace h := Gets.of h
  have H := h
  clear h
  refine WP.seq ?_
  refine WP.reg [(0, false)] (by kernel_rfl) ?_
  refine Dv.asg rfl trivial rfl ?_
  refine .fin ?_
  refine WP.seq ?_
  refine WP.reg [(0, false), (1, false), (2, false)] (by kernel_rfl) ?_
  refine Dv.mv rfl trivial rfl ?_
  obtain ⟨t34, h35, H⟩ := Gets.call H
  refine Dv.call rfl trivial cal13 rfl (concourseref01_Around.c h35) ?_
  refine Dv.asg rfl trivial rfl ?_
  refine .fin ?_
  refine WP.seq ?_
  refine WP.seq ?_
  refine WP.reg [(0, false), (1, false)] (by kernel_rfl) ?_
  refine Dv.mv rfl trivial rfl ?_
  refine Dv.bin rfl trivial rfl rfl (fun _ => run_eq) ?_
  refine .fin ?_
  refine WP.cond rfl (fun c36 => ?_) (fun c36 => ?_)
  · replace H := Gets.ct H c36
    refine WP.seq ?_
    refine WP.reg [(0, false)] (by kernel_rfl) ?_
    refine Dv.asg rfl trivial rfl ?_
    refine .fin ?_
    obtain rfl := Gets.out H
    exact WP.retL (fun _ _ h => h) rfl () trivial (.cons (res_tmp rfl) .nil) rfl (fun _ _ h => h)
  · replace H := Gets.cf H c36
    refine WP.skip ?_
    refine WP.seq ?_
    refine WP.seq ?_
    refine WP.reg [(0, false), (1, false)] (by kernel_rfl) ?_
    refine Dv.mv rfl trivial rfl ?_
    refine Dv.bin rfl trivial rfl rfl (fun _ => run_eq) ?_
    refine .fin ?_
    refine WP.cond rfl (fun c37 => ?_) (fun c37 => ?_)
    · replace H := Gets.ct H c37
      refine WP.seq ?_
      refine WP.reg [(0, false)] (by kernel_rfl) ?_
      refine Dv.asg rfl trivial rfl ?_
      refine .fin ?_
      obtain rfl := Gets.out H
      exact WP.retL (fun _ _ h => h) rfl () trivial (.cons (res_tmp rfl) .nil) rfl (fun _ _ h => h)
    · replace H := Gets.cf H c37
      refine WP.skip ?_
      refine WP.seq ?_
      refine WP.reg [(0, false), (1, false), (2, false)] (by kernel_rfl) ?_
      refine Dv.mv rfl trivial rfl ?_
      obtain ⟨t38, h39, H⟩ := Gets.call H
      refine Dv.call rfl trivial cal14 rfl (concourseref01_EventOf.c h39) ?_
      refine Dv.asg rfl trivial rfl ?_
      refine .fin ?_
      obtain rfl := Gets.out H
      exact WP.retL (fun _ _ h => h) rfl () trivial (.cons (res_tmp rfl) .nil) rfl (fun _ _ h => h)
/-! concourse/concourseref11.Good: function 4 -/
def concourseref11_Good.f (k : Nat) (a0 : SKAt) : Option (SKAt) := (concourseref01_RoomOf.f (a0.fK.fRoom.size : Int)).bind fun t42 => (concourseref01_UserOf.f (a0.fK.fUser.size : Int)).bind fun t44 => (concourseref01_ThreadOf.f k (a0.fK.fThread.size : Int)).bind fun t46 => (concourseref01_Around.f a0.fAt.fDepth 4).bind fun t48 => (concourseref01_EventOf.f k (a0.fAt.fID.size : Int)).bind fun t50 => some (⟨(⟨t42, t44, t46, a0.fK.fPrivate⟩ : SRooUseThrPri), (⟨t48, t50⟩ : SDepID)⟩ : SKAt)
theorem concourseref11_Good.c {k : Nat} {a0 : SKAt} {r : SKAt} (h : concourseref11_Good.f k a0 = some r) : Pt Try.prog 4 [agg (SKAt.enc a0)] (agg (SKAt.enc r)) := by
  unfold concourseref11_Good.f at h
  refine (Tr.body Try.func4 (c := _) rfl Try.ntmps4 (Nat.le_of_ble_eq_true rfl) fun R0 F => ?_).pt
  replace h := Gets.of h
  have H := h
  clear h
  refine WP.seq ?_
  refine WP.reg [(0, true), (1, true)] (by kernel_rfl) ?_
  refine Dv.box rfl trivial rfl (cells_agg (SKAt.K.one _)) nofun (fun b40 => ?_)
  refine Dv.alloc (z := .agg #[.string ⟨#[]⟩, .string ⟨#[]⟩, .string ⟨#[]⟩, .bool false, .int .i64 0, .string ⟨#[]⟩]) (qs := [eq (.string (⟨#[]⟩ : ByteArray)), eq (.string (⟨#[]⟩ : ByteArray)), eq (.string (⟨#[]⟩ : ByteArray)), eq (.bool false), eq (.int .i64 0), eq (.string (⟨#[]⟩ : ByteArray))]) rfl trivial z27 rfl nofun (fun b41 => ?_)
  refine .fin ?_
  refine WP.seq ?_
  refine WP.dreg Try.checked.mixed [(0, false), (1, false), (2, false), (3, false), (4, false), (5, false), (6, false), (7, false), (8, false), (9, false), (10, false), (11, false), (12, false), (13, false), (14, false), (15, false), (16, false), (17, false), (18, false), (19, false), (20, false), (21, false), (22, false), (23, false), (24, false), (25, false), (26, false), (27, false), (28, false), (29, false), (30, true)] (by kernel_rfl) ?_
  refine Dv.fab rfl trivial rfl Try.underlying27 rfl Try.underlying23 c23 (by decide) ?_
  refine Dv.fab rfl trivial rfl Try.underlying23 rfl Try.underlying9 c9 (by decide) ?_
  refine Dv.ldb rfl trivial rfl Try.underlying9 rfl (mem_at 1 rfl) rfl ?_
  refine Dv.lens rfl trivial rfl Try.underlying9 ?_
  obtain ⟨t42, h43, H⟩ := Gets.call H
  refine Dv.call rfl trivial cal6 rfl (concourseref01_RoomOf.c h43) ?_
  refine Dv.fab rfl trivial rfl Try.underlying27 rfl Try.underlying23 c23 (by decide) ?_
  refine Dv.fab rfl trivial rfl Try.underlying23 rfl Try.underlying9 c9 (by decide) ?_
  refine Dv.ldb rfl trivial rfl Try.underlying9 rfl (mem_at 1 rfl) rfl ?_
  refine Dv.lens rfl trivial rfl Try.underlying9 ?_
  obtain ⟨t44, h45, H⟩ := Gets.call H
  refine Dv.call rfl trivial cal7 rfl (concourseref01_UserOf.c h45) ?_
  refine Dv.fab rfl trivial rfl Try.underlying27 rfl Try.underlying23 c23 (by decide) ?_
  refine Dv.fab rfl trivial rfl Try.underlying23 rfl Try.underlying9 c9 (by decide) ?_
  refine Dv.ldb rfl trivial rfl Try.underlying9 rfl (mem_at 1 rfl) rfl ?_
  refine Dv.lens rfl trivial rfl Try.underlying9 ?_
  obtain ⟨t46, h47, H⟩ := Gets.call H
  refine Dv.call rfl trivial cal12 rfl (concourseref01_ThreadOf.c h47) ?_
  refine Dv.fab rfl trivial rfl Try.underlying27 rfl Try.underlying23 c23 (by decide) ?_
  refine Dv.fab rfl trivial rfl Try.underlying23 rfl Try.underlying4 c4 (by decide) ?_
  refine Dv.ldb rfl trivial rfl Try.underlying4 rfl (mem_at 1 rfl) rfl ?_
  refine Dv.bld (css := [[eq (.string t42)], [eq (.string t44)], [eq (.string t46)], [eq (.bool a0.fK.fPrivate)]]) rfl trivial Try.underlying23 pl23 z23 rfl ⟨(cells_one (one_eq rfl)), ⟨(cells_one (one_eq rfl)), ⟨(cells_one (one_eq rfl)), ⟨(cells_one (one_eq rfl)), trivial⟩⟩⟩⟩ rfl rfl ?_
  refine Dv.fab rfl trivial rfl Try.underlying27 rfl Try.underlying25 c25 (by decide) ?_
  refine Dv.fab rfl trivial rfl Try.underlying25 rfl Try.underlying3 c3 (by decide) ?_
  refine Dv.ldb rfl trivial rfl Try.underlying3 rfl (mem_at 1 rfl) rfl ?_
  obtain ⟨t48, h49, H⟩ := Gets.call H
  refine Dv.call rfl trivial cal13 rfl (concourseref01_Around.c h49) ?_
  refine Dv.fab rfl trivial rfl Try.underlying27 rfl Try.underlying25 c25 (by decide) ?_
  refine Dv.fab rfl trivial rfl Try.underlying25 rfl Try.underlying9 c9 (by decide) ?_
  refine Dv.ldb rfl trivial rfl Try.underlying9 rfl (mem_at 1 rfl) rfl ?_
  refine Dv.lens rfl trivial rfl Try.underlying9 ?_
  obtain ⟨t50, h51, H⟩ := Gets.call H
  refine Dv.call rfl trivial cal14 rfl (concourseref01_EventOf.c h51) ?_
  refine Dv.bld (css := [[eq (.int .i64 t48)], [eq (.string t50)]]) rfl trivial Try.underlying25 pl25 z25 rfl ⟨(cells_one (one_eq rfl)), ⟨(cells_one (one_eq rfl)), trivial⟩⟩ rfl rfl ?_
  refine Dv.bld (css := [[eq (.string t42), eq (.string t44), eq (.string t46), eq (.bool a0.fK.fPrivate)], [eq (.int .i64 t48), eq (.string t50)]]) rfl trivial Try.underlying27 pl27 z27 rfl ⟨(cells_agg (ones_cons (one_eq rfl) (ones_cons (one_eq rfl) (ones_cons (one_eq rfl) (ones_cons (one_eq rfl) ones_nil))))), ⟨(cells_agg (ones_cons (one_eq rfl) (ones_cons (one_eq rfl) ones_nil))), trivial⟩⟩ rfl rfl ?_
  refine Dv.stb rfl trivial rfl rfl (cells_agg (ones_cons (one_eq rfl) (ones_cons (one_eq rfl) (ones_cons (one_eq rfl) (ones_cons (one_eq rfl) (ones_cons (one_eq rfl) (ones_cons (one_eq rfl) ones_nil))))))) Try.underlying27 c27 rfl (j := 0) rfl (Nat.le_of_ble_eq_true rfl) (fun _ => pend_bits (by kernel_rfl)) ?_
  refine .fin ?_
  obtain rfl := Gets.out H
  exact WP.retL (fun _ _ h => h) rfl () trivial (.cons (res_cells rfl Try.underlying27 rfl c27 (mem_at 0 rfl) rfl) .nil) rfl (fun _ _ h => h.drop.drop)
/-! concourse/sync.RoomKey: function 9 -/
def sync_RoomKey.f (a0 : ByteArray) : Option (ByteArray) := grd ((⟨#[116, 32]⟩ : ByteArray).size + a0.size ≤ 9223372036854775807) (some ((⟨#[116, 32]⟩ : ByteArray) ++ a0))
theorem sync_RoomKey.c {a0 : ByteArray} {r : ByteArray} (h : sync_RoomKey.f a0 = some r) : Pt Try.prog 9 [eq (.string a0)] (eq (.string r)) := by
  unfold sync_RoomKey.f at h
  refine (Tr.body Try.func9 (c := _) rfl Try.ntmps9 (Nat.le_of_ble_eq_true rfl) fun R0 F => ?_).pt
  replace h := Gets.of h
  have H := h
  clear h
  refine WP.seq ?_
  refine WP.reg [(0, false)] (by kernel_rfl) ?_
  refine Dv.asg rfl trivial rfl ?_
  refine .fin ?_
  refine WP.seq ?_
  refine WP.reg [(0, false), (1, false), (2, false)] (by kernel_rfl) ?_
  refine Dv.mv rfl trivial rfl ?_
  obtain ⟨g52, H⟩ := Gets.grd H
  refine Dv.bin rfl trivial rfl rfl (fun _ => run_cat g52) ?_
  refine Dv.asg rfl trivial rfl ?_
  refine .fin ?_
  obtain rfl := Gets.out H
  exact WP.retL (fun _ _ h => h) rfl () trivial (.cons (res_tmp rfl) .nil) rfl (fun _ _ h => h)
/-! concourse/sync.UserKey: function 10 -/
def sync_UserKey.f (a0 : ByteArray) : Option (ByteArray) := grd ((⟨#[112, 32]⟩ : ByteArray).size + a0.size ≤ 9223372036854775807) (some ((⟨#[112, 32]⟩ : ByteArray) ++ a0))
theorem sync_UserKey.c {a0 : ByteArray} {r : ByteArray} (h : sync_UserKey.f a0 = some r) : Pt Try.prog 10 [eq (.string a0)] (eq (.string r)) := by
  unfold sync_UserKey.f at h
  refine (Tr.body Try.func10 (c := _) rfl Try.ntmps10 (Nat.le_of_ble_eq_true rfl) fun R0 F => ?_).pt
  replace h := Gets.of h
  have H := h
  clear h
  refine WP.seq ?_
  refine WP.reg [(0, false)] (by kernel_rfl) ?_
  refine Dv.asg rfl trivial rfl ?_
  refine .fin ?_
  refine WP.seq ?_
  refine WP.reg [(0, false), (1, false), (2, false)] (by kernel_rfl) ?_
  refine Dv.mv rfl trivial rfl ?_
  obtain ⟨g53, H⟩ := Gets.grd H
  refine Dv.bin rfl trivial rfl rfl (fun _ => run_cat g53) ?_
  refine Dv.asg rfl trivial rfl ?_
  refine .fin ?_
  obtain rfl := Gets.out H
  exact WP.retL (fun _ _ h => h) rfl () trivial (.cons (res_tmp rfl) .nil) rfl (fun _ _ h => h)
/-! concourse/concourseref21.Key: function 8 -/
def concourseref21_Key.f (a0 : SKinKNam) : Option (ByteArray) := cond (a0.fKind == 1) ((cond a0.fK.fPrivate (some (⟨#[32, 49]⟩ : ByteArray)) (some (⟨#[32, 48]⟩ : ByteArray))).bind fun (p56 : ByteArray) => grd ((⟨#[109, 32]⟩ : ByteArray).size + a0.fK.fRoom.size ≤ 9223372036854775807) (grd (((⟨#[109, 32]⟩ : ByteArray) ++ a0.fK.fRoom).size + (⟨#[32]⟩ : ByteArray).size ≤ 9223372036854775807) (grd ((((⟨#[109, 32]⟩ : ByteArray) ++ a0.fK.fRoom) ++ (⟨#[32]⟩ : ByteArray)).size + a0.fK.fUser.size ≤ 9223372036854775807) (grd (((((⟨#[109, 32]⟩ : ByteArray) ++ a0.fK.fRoom) ++ (⟨#[32]⟩ : ByteArray)) ++ a0.fK.fUser).size + (⟨#[32]⟩ : ByteArray).size ≤ 9223372036854775807) (grd ((((((⟨#[109, 32]⟩ : ByteArray) ++ a0.fK.fRoom) ++ (⟨#[32]⟩ : ByteArray)) ++ a0.fK.fUser) ++ (⟨#[32]⟩ : ByteArray)).size + a0.fK.fThread.size ≤ 9223372036854775807) (grd (((((((⟨#[109, 32]⟩ : ByteArray) ++ a0.fK.fRoom) ++ (⟨#[32]⟩ : ByteArray)) ++ a0.fK.fUser) ++ (⟨#[32]⟩ : ByteArray)) ++ a0.fK.fThread).size + p56.size ≤ 9223372036854775807) (some (((((((⟨#[109, 32]⟩ : ByteArray) ++ a0.fK.fRoom) ++ (⟨#[32]⟩ : ByteArray)) ++ a0.fK.fUser) ++ (⟨#[32]⟩ : ByteArray)) ++ a0.fK.fThread) ++ p56)))))))) (cond (a0.fKind == 2) (grd ((⟨#[116, 32]⟩ : ByteArray).size + a0.fName.size ≤ 9223372036854775807) (some ((⟨#[116, 32]⟩ : ByteArray) ++ a0.fName))) (grd ((⟨#[112, 32]⟩ : ByteArray).size + a0.fName.size ≤ 9223372036854775807) (some ((⟨#[112, 32]⟩ : ByteArray) ++ a0.fName))))
theorem concourseref21_Key.c {a0 : SKinKNam} {r : ByteArray} (h : concourseref21_Key.f a0 = some r) : Pt Try.prog 8 [agg (SKinKNam.enc a0)] (eq (.string r)) := by
  unfold concourseref21_Key.f at h
  refine (Tr.body Try.func8 (c := _) rfl Try.ntmps8 (Nat.le_of_ble_eq_true rfl) fun R0 F => ?_).pt
  replace h := Gets.of h
  have H := h
  clear h
  refine WP.seq ?_
  refine WP.reg [(0, true), (1, false)] (by kernel_rfl) ?_
  refine Dv.box rfl trivial rfl (cells_agg (SKinKNam.K.one _)) nofun (fun b54 => ?_)
  refine Dv.asg rfl trivial rfl ?_
  refine .fin ?_
  refine WP.seq ?_
  refine WP.seq ?_
  refine WP.reg [(0, false), (1, false), (2, false)] (by kernel_rfl) ?_
  refine Dv.fab rfl trivial rfl Try.underlying34 rfl Try.underlying3 c3 (by decide) ?_
  refine Dv.ldb rfl trivial rfl Try.underlying3 rfl (mem_at 0 rfl) rfl ?_
  refine Dv.bin rfl trivial rfl rfl (fun _ => run_eq) ?_
  refine .fin ?_
  refine WP.cond rfl (fun c55 => ?_) (fun c55 => ?_)
  · replace H := Gets.ct H c55
    refine WP.seq ?_
    refine WP.reg [(0, false)] (by kernel_rfl) ?_
    refine Dv.asg rfl trivial rfl ?_
    refine .fin ?_
    refine WP.seqn H id (fun p56 : ByteArray => [(0, agg (SKinKNam.enc a0)), (1, eq (.pointer (some ⟨b54, 0, none⟩))), (2, eq (.string (⟨#[]⟩ : ByteArray))), (3, eq (.string p56)), (6, eq (.bool (a0.fKind == 1))), (9, eq (.bool a0.fK.fPrivate))]) (fun p56 : ByteArray => [blk b54 34 [eq (.int .i64 a0.fKind), eq (.string a0.fK.fRoom), eq (.string a0.fK.fUser), eq (.string a0.fK.fThread), eq (.bool a0.fK.fPrivate), eq (.string a0.fName)]] ++ F) (fun p56 H => ?_) (fun H => ?_)
    · refine WP.seq ?_
      refine WP.reg [(0, false), (1, false), (2, false), (3, false), (4, false), (5, false), (6, false), (7, false), (8, false), (9, false), (10, false), (11, false), (12, false), (13, false), (14, false), (15, false), (16, false)] (by kernel_rfl) ?_
      refine Dv.fab rfl trivial rfl Try.underlying34 rfl Try.underlying23 c23 (by decide) ?_
      refine Dv.fab rfl trivial rfl Try.underlying23 rfl Try.underlying9 c9 (by decide) ?_
      refine Dv.ldb rfl trivial rfl Try.underlying9 rfl (mem_at 0 rfl) rfl ?_
      obtain ⟨g57, H⟩ := Gets.grd H
      refine Dv.bin rfl trivial rfl rfl (fun _ => run_cat g57) ?_
      obtain ⟨g58, H⟩ := Gets.grd H
      refine Dv.bin rfl trivial rfl rfl (fun _ => run_cat g58) ?_
      refine Dv.fab rfl trivial rfl Try.underlying34 rfl Try.underlying23 c23 (by decide) ?_
      refine Dv.fab rfl trivial rfl Try.underlying23 rfl Try.underlying9 c9 (by decide) ?_
      refine Dv.ldb rfl trivial rfl Try.underlying9 rfl (mem_at 0 rfl) rfl ?_
      obtain ⟨g59, H⟩ := Gets.grd H
      refine Dv.bin rfl trivial rfl rfl (fun _ => run_cat g59) ?_
      obtain ⟨g60, H⟩ := Gets.grd H
      refine Dv.bin rfl trivial rfl rfl (fun _ => run_cat g60) ?_
      refine Dv.fab rfl trivial rfl Try.underlying34 rfl Try.underlying23 c23 (by decide) ?_
      refine Dv.fab rfl trivial rfl Try.underlying23 rfl Try.underlying9 c9 (by decide) ?_
      refine Dv.ldb rfl trivial rfl Try.underlying9 rfl (mem_at 0 rfl) rfl ?_
      obtain ⟨g61, H⟩ := Gets.grd H
      refine Dv.bin rfl trivial rfl rfl (fun _ => run_cat g61) ?_
      refine Dv.mv rfl trivial rfl ?_
      obtain ⟨g62, H⟩ := Gets.grd H
      refine Dv.bin rfl trivial rfl rfl (fun _ => run_cat g62) ?_
      refine Dv.asg rfl trivial rfl ?_
      refine .fin ?_
      obtain rfl := Gets.out H
      exact WP.retL (fun _ _ h => h) rfl () trivial (.cons (res_tmp rfl) .nil) rfl (fun _ _ h => h.drop)
    · refine WP.seq ?_
      refine WP.reg [(0, false), (1, false), (2, false)] (by kernel_rfl) ?_
      refine Dv.fab rfl trivial rfl Try.underlying34 rfl Try.underlying23 c23 (by decide) ?_
      refine Dv.fab rfl trivial rfl Try.underlying23 rfl Try.underlying4 c4 (by decide) ?_
      refine Dv.ldb rfl trivial rfl Try.underlying4 rfl (mem_at 0 rfl) rfl ?_
      refine .fin ?_
      refine WP.cond rfl (fun c63 => ?_) (fun c63 => ?_)
      · replace H := Gets.ct H c63
        refine WP.reg [(0, false)] (by kernel_rfl) ?_
        refine Dv.asg rfl trivial rfl ?_
        refine .fin ?_
        replace H := Gets.out H
        exact Jn.mk (⟨#[32, 49]⟩ : ByteArray) H (weak_cons rfl (weak_cons rfl (weak_cons rfl (weak_cons rfl (weak_cons rfl (weak_cons rfl weak_nil)))))) (List.Perm.refl _)
      · replace H := Gets.cf H c63
        refine WP.skip ?_
        replace H := Gets.out H
        exact Jn.mk (⟨#[32, 48]⟩ : ByteArray) H (weak_cons rfl (weak_cons rfl (weak_cons rfl (weak_cons rfl (weak_cons rfl (weak_cons rfl weak_nil)))))) (List.Perm.refl _)
  · replace H := Gets.cf H c55
    refine WP.skip ?_
    refine WP.seq ?_
    refine WP.seq ?_
    refine WP.reg [(0, false), (1, false), (2, false)] (by kernel_rfl) ?_
    refine Dv.fab rfl trivial rfl Try.underlying34 rfl Try.underlying3 c3 (by decide) ?_
    refine Dv.ldb rfl trivial rfl Try.underlying3 rfl (mem_at 0 rfl) rfl ?_
    refine Dv.bin rfl trivial rfl rfl (fun _ => run_eq) ?_
    refine .fin ?_
    refine WP.cond rfl (fun c64 => ?_) (fun c64 => ?_)
    · replace H := Gets.ct H c64
      refine WP.seq ?_
      refine WP.reg [(0, false), (1, false), (2, false), (3, false)] (by kernel_rfl) ?_
      refine Dv.fab rfl trivial rfl Try.underlying34 rfl Try.underlying9 c9 (by decide) ?_
      refine Dv.ldb rfl trivial rfl Try.underlying9 rfl (mem_at 0 rfl) rfl ?_
      obtain ⟨g65, H⟩ := Gets.grd H
      refine Dv.bin rfl trivial rfl rfl (fun _ => run_cat g65) ?_
      refine Dv.asg rfl trivial rfl ?_
      refine .fin ?_
      obtain rfl := Gets.out H
      exact WP.retL (fun _ _ h => h) rfl () trivial (.cons (res_tmp rfl) .nil) rfl (fun _ _ h => h.drop)
    · replace H := Gets.cf H c64
      refine WP.skip ?_
      refine WP.seq ?_
      refine WP.reg [(0, false), (1, false), (2, false), (3, false)] (by kernel_rfl) ?_
      refine Dv.fab rfl trivial rfl Try.underlying34 rfl Try.underlying9 c9 (by decide) ?_
      refine Dv.ldb rfl trivial rfl Try.underlying9 rfl (mem_at 0 rfl) rfl ?_
      obtain ⟨g66, H⟩ := Gets.grd H
      refine Dv.bin rfl trivial rfl rfl (fun _ => run_cat g66) ?_
      refine Dv.asg rfl trivial rfl ?_
      refine .fin ?_
      obtain rfl := Gets.out H
      exact WP.retL (fun _ _ h => h) rfl () trivial (.cons (res_tmp rfl) .nil) rfl (fun _ _ h => h.drop)
/-! concourse/sync.MarkKey: function 5 -/
def sync_MarkKey.f (a0 : SRooUseThrPri) : Option (ByteArray) := cond a0.fPrivate ((strings_Join.f ([(⟨#[109]⟩ : ByteArray), a0.fRoom, a0.fUser, a0.fThread, (⟨#[49]⟩ : ByteArray)] : List ByteArray) (⟨#[32]⟩ : ByteArray)).bind fun t69 => some t69) ((strings_Join.f ([(⟨#[109]⟩ : ByteArray), a0.fRoom, a0.fUser, a0.fThread, (⟨#[48]⟩ : ByteArray)] : List ByteArray) (⟨#[32]⟩ : ByteArray)).bind fun t71 => some t71)
theorem sync_MarkKey.c {a0 : SRooUseThrPri} {r : ByteArray} (h : sync_MarkKey.f a0 = some r) : Pt Try.prog 5 [agg (SRooUseThrPri.enc a0)] (eq (.string r)) := by
  unfold sync_MarkKey.f at h
  refine (Tr.body Try.func5 (c := _) rfl Try.ntmps5 (Nat.le_of_ble_eq_true rfl) fun R0 F => ?_).pt
  replace h := Gets.of h
  have H := h
  clear h
  refine WP.seq ?_
  refine WP.reg [(0, true), (1, false)] (by kernel_rfl) ?_
  refine Dv.box rfl trivial rfl (cells_agg (SRooUseThrPri.K.one _)) nofun (fun b67 => ?_)
  refine Dv.asg rfl trivial rfl ?_
  refine .fin ?_
  refine WP.seq ?_
  refine WP.reg [(0, false)] (by kernel_rfl) ?_
  refine Dv.asg rfl trivial rfl ?_
  refine .fin ?_
  refine WP.seq ?_
  refine WP.seq ?_
  refine WP.reg [(0, false), (1, false)] (by kernel_rfl) ?_
  refine Dv.fab rfl trivial rfl Try.underlying30 rfl Try.underlying4 c4 (by decide) ?_
  refine Dv.ldb rfl trivial rfl Try.underlying4 rfl (mem_at 0 rfl) rfl ?_
  refine .fin ?_
  refine WP.cond rfl (fun c68 => ?_) (fun c68 => ?_)
  · replace H := Gets.ct H c68
    refine WP.reg [(0, false)] (by kernel_rfl) ?_
    refine Dv.asg rfl trivial rfl ?_
    refine .fin ?_
    refine WP.seq ?_
    refine WP.reg [(0, false), (1, false), (2, false), (3, false), (4, false), (5, false), (6, false), (7, false), (8, false), (9, false)] (by kernel_rfl) ?_
    refine Dv.fab rfl trivial rfl Try.underlying30 rfl Try.underlying9 c9 (by decide) ?_
    refine Dv.ldb rfl trivial rfl Try.underlying9 rfl (mem_at 0 rfl) rfl ?_
    refine Dv.fab rfl trivial rfl Try.underlying30 rfl Try.underlying9 c9 (by decide) ?_
    refine Dv.ldb rfl trivial rfl Try.underlying9 rfl (mem_at 0 rfl) rfl ?_
    refine Dv.fab rfl trivial rfl Try.underlying30 rfl Try.underlying9 c9 (by decide) ?_
    refine Dv.ldb rfl trivial rfl Try.underlying9 rfl (mem_at 0 rfl) rfl ?_
    refine Dv.mv rfl trivial rfl ?_
    refine Dv.lit strK ([(⟨#[109]⟩ : ByteArray), a0.fRoom, a0.fUser, a0.fThread, (⟨#[49]⟩ : ByteArray)] : List ByteArray) (css := [[eq (.string (⟨#[109]⟩ : ByteArray))], [eq (.string a0.fRoom)], [eq (.string a0.fUser)], [eq (.string a0.fThread)], [eq (.string (⟨#[49]⟩ : ByteArray))]]) rfl trivial Try.underlying40 Try.underlying9 c9 z9 rfl (by decide) (by decide) rfl ⟨(cells_one (one_eq rfl)), ⟨(cells_one (one_eq rfl)), ⟨(cells_one (one_eq rfl)), ⟨(cells_one (one_eq rfl)), ⟨(cells_one (one_eq rfl)), trivial⟩⟩⟩⟩⟩ rfl rfl rfl ?_
    obtain ⟨t69, h70, H⟩ := Gets.call H
    refine Dv.call rfl trivial cal15 rfl (strings_Join.c h70) ?_
    refine Dv.asg rfl trivial rfl ?_
    refine .fin ?_
    obtain rfl := Gets.out H
    exact WP.retL (fun _ _ h => h) rfl () trivial (.cons (res_tmp rfl) .nil) rfl (fun _ _ h => h.drop)
  · replace H := Gets.cf H c68
    refine WP.skip ?_
    refine WP.seq ?_
    refine WP.reg [(0, false), (1, false), (2, false), (3, false), (4, false), (5, false), (6, false), (7, false), (8, false), (9, false)] (by kernel_rfl) ?_
    refine Dv.fab rfl trivial rfl Try.underlying30 rfl Try.underlying9 c9 (by decide) ?_
    refine Dv.ldb rfl trivial rfl Try.underlying9 rfl (mem_at 0 rfl) rfl ?_
    refine Dv.fab rfl trivial rfl Try.underlying30 rfl Try.underlying9 c9 (by decide) ?_
    refine Dv.ldb rfl trivial rfl Try.underlying9 rfl (mem_at 0 rfl) rfl ?_
    refine Dv.fab rfl trivial rfl Try.underlying30 rfl Try.underlying9 c9 (by decide) ?_
    refine Dv.ldb rfl trivial rfl Try.underlying9 rfl (mem_at 0 rfl) rfl ?_
    refine Dv.mv rfl trivial rfl ?_
    refine Dv.lit strK ([(⟨#[109]⟩ : ByteArray), a0.fRoom, a0.fUser, a0.fThread, (⟨#[48]⟩ : ByteArray)] : List ByteArray) (css := [[eq (.string (⟨#[109]⟩ : ByteArray))], [eq (.string a0.fRoom)], [eq (.string a0.fUser)], [eq (.string a0.fThread)], [eq (.string (⟨#[48]⟩ : ByteArray))]]) rfl trivial Try.underlying40 Try.underlying9 c9 z9 rfl (by decide) (by decide) rfl ⟨(cells_one (one_eq rfl)), ⟨(cells_one (one_eq rfl)), ⟨(cells_one (one_eq rfl)), ⟨(cells_one (one_eq rfl)), ⟨(cells_one (one_eq rfl)), trivial⟩⟩⟩⟩⟩ rfl rfl rfl ?_
    obtain ⟨t71, h72, H⟩ := Gets.call H
    refine Dv.call rfl trivial cal15 rfl (strings_Join.c h72) ?_
    refine Dv.asg rfl trivial rfl ?_
    refine .fin ?_
    obtain rfl := Gets.out H
    exact WP.retL (fun _ _ h => h) rfl () trivial (.cons (res_tmp rfl) .nil) rfl (fun _ _ h => h.drop)
/-! concourse/concourselaw21.lives: function 11 -/
def concourselaw21_lives.f : Option (Bool) := (sync_MarkKey.f (⟨(⟨#[33, 114, 58, 115]⟩ : ByteArray), (⟨#[64, 97, 58, 115]⟩ : ByteArray), (⟨#[]⟩ : ByteArray), true⟩ : SRooUseThrPri)).bind fun t73 => cond (decide (t73 = (⟨#[109, 32, 33, 114, 58, 115, 32, 64, 97, 58, 115, 32, 32, 49]⟩ : ByteArray))) ((sync_RoomKey.f (⟨#[33, 114, 58, 115]⟩ : ByteArray)).bind fun t76 => cond (decide (t76 = (⟨#[116, 32, 33, 114, 58, 115]⟩ : ByteArray))) ((sync_UserKey.f (⟨#[64, 97, 58, 115]⟩ : ByteArray)).bind fun t79 => some (decide (t79 = (⟨#[112, 32, 64, 97, 58, 115]⟩ : ByteArray)))) (some false)) (some false)
theorem concourselaw21_lives.c {r : Bool} (h : concourselaw21_lives.f = some r) : Pt Try.prog 11 [] (eq (.bool r)) := by
  unfold concourselaw21_lives.f at h
  refine (Tr.body Try.func11 (c := _) rfl Try.ntmps11 (Nat.le_of_ble_eq_true rfl) fun R0 F => ?_).pt
  replace h := Gets.of h
  have H := h
  clear h
  refine WP.seq ?_
  refine WP.reg [(0, false)] (by kernel_rfl) ?_
  refine Dv.asg rfl trivial rfl ?_
  refine .fin ?_
  refine WP.seq ?_
  refine WP.reg [(0, false), (1, false), (2, false), (3, false), (4, false), (5, false), (6, false), (7, false), (8, false), (9, false), (10, false), (11, false)] (by kernel_rfl) ?_
  refine Dv.bld (css := [[eq (.string (⟨#[33, 114, 58, 115]⟩ : ByteArray))], [eq (.string (⟨#[64, 97, 58, 115]⟩ : ByteArray))], [eq (.bool true)]]) rfl trivial Try.underlying30 pl30 z30 rfl ⟨(cells_one (one_eq rfl)), ⟨(cells_one (one_eq rfl)), ⟨(cells_one (one_eq rfl)), trivial⟩⟩⟩ rfl rfl ?_
  obtain ⟨t73, h74, H⟩ := Gets.call H
  refine Dv.call rfl trivial cal5 rfl (sync_MarkKey.c h74) ?_
  refine Dv.bin rfl trivial rfl rfl (fun _ => run_seq) ?_
  refine Dv.mv rfl trivial rfl ?_
  cases c75 : decide (t73 = (⟨#[109, 32, 33, 114, 58, 115, 32, 64, 97, 58, 115, 32, 32, 49]⟩ : ByteArray))
  · replace H := Gets.cf H c75
    refine Dv.skip rfl ⟨_, _, rfl, rfl, rfl⟩ ?_
    refine Dv.skip rfl ⟨_, _, rfl, rfl, rfl⟩ ?_
    refine Dv.pickF rfl trivial rfl rfl ?_
    refine Dv.mv rfl trivial rfl ?_
    refine Dv.skip rfl ⟨_, _, rfl, rfl, rfl⟩ ?_
    refine Dv.skip rfl ⟨_, _, rfl, rfl, rfl⟩ ?_
    refine Dv.pickF rfl trivial rfl rfl ?_
    refine Dv.asg rfl trivial rfl ?_
    refine .fin ?_
    obtain rfl := Gets.out H
    exact WP.retL (fun _ _ h => h) rfl () trivial (.cons (res_tmp rfl) .nil) rfl (fun _ _ h => h)
  · replace H := Gets.ct H c75
    obtain ⟨t76, h77, H⟩ := Gets.call H
    refine Dv.call rfl ⟨_, _, rfl, rfl, rfl⟩ cal9 rfl (sync_RoomKey.c h77) ?_
    refine Dv.bin rfl ⟨_, _, rfl, rfl, rfl⟩ rfl rfl (fun _ => run_seq) ?_
    refine Dv.pickT rfl trivial rfl rfl ?_
    refine Dv.mv rfl trivial rfl ?_
    cases c78 : decide (t76 = (⟨#[116, 32, 33, 114, 58, 115]⟩ : ByteArray))
    · replace H := Gets.cf H c78
      refine Dv.skip rfl ⟨_, _, rfl, rfl, rfl⟩ ?_
      refine Dv.skip rfl ⟨_, _, rfl, rfl, rfl⟩ ?_
      refine Dv.pickF rfl trivial rfl rfl ?_
      refine Dv.asg rfl trivial rfl ?_
      refine .fin ?_
      obtain rfl := Gets.out H
      exact WP.retL (fun _ _ h => h) rfl () trivial (.cons (res_tmp rfl) .nil) rfl (fun _ _ h => h)
    · replace H := Gets.ct H c78
      obtain ⟨t79, h80, H⟩ := Gets.call H
      refine Dv.call rfl ⟨_, _, rfl, rfl, rfl⟩ cal10 rfl (sync_UserKey.c h80) ?_
      refine Dv.bin rfl ⟨_, _, rfl, rfl, rfl⟩ rfl rfl (fun _ => run_seq) ?_
      refine Dv.pickT rfl trivial rfl rfl ?_
      refine Dv.asg rfl trivial rfl ?_
      refine .fin ?_
      obtain rfl := Gets.out H
      exact WP.retL (fun _ _ h => h) rfl () trivial (.cons (res_tmp rfl) .nil) rfl (fun _ _ h => h)
/-! concourse/concourselaw21.SyncKeys: function 3 -/
def concourselaw21_SyncKeys.f (k : Nat) (a0 : SKAt) (a1 : SKAt) (a2 : Int) : Option (Bool) := (concourseref11_Good.f k a0).bind fun t83 => (concourseref11_Good.f k a1).bind fun t86 => (sync_MarkKey.f t83.fK).bind fun t89 => (sync_MarkKey.f t86.fK).bind fun t91 => (concourseref01_RoomOf.f a2).bind fun t93 => (concourseref01_UserOf.f a2).bind fun t95 => (concourseref21_Key.f (⟨1, t83.fK, (⟨#[]⟩ : ByteArray)⟩ : SKinKNam)).bind fun t97 => cond (decide (t89 = t97)) (cond ((decide (t89 = t91)) == (decide (t83.fK = t86.fK))) ((sync_RoomKey.f t93).bind fun t101 => (concourseref21_Key.f (⟨2, (⟨(⟨#[]⟩ : ByteArray), (⟨#[]⟩ : ByteArray), (⟨#[]⟩ : ByteArray), false⟩ : SRooUseThrPri), t93⟩ : SKinKNam)).bind fun t103 => cond (decide (t101 = t103)) ((sync_UserKey.f t95).bind fun t106 => (concourseref21_Key.f (⟨3, (⟨(⟨#[]⟩ : ByteArray), (⟨#[]⟩ : ByteArray), (⟨#[]⟩ : ByteArray), false⟩ : SRooUseThrPri), t95⟩ : SKinKNam)).bind fun t108 => cond (decide (t106 = t108)) ((concourselaw21_lives.f).bind fun t111 => some t111) (some false)) (some false)) (some false)) (some false)
theorem concourselaw21_SyncKeys.c {k : Nat} {a0 : SKAt} {a1 : SKAt} {a2 : Int} {r : Bool} (h : concourselaw21_SyncKeys.f k a0 a1 a2 = some r) : Pt Try.prog 3 [agg (SKAt.enc a0), agg (SKAt.enc a1), eq (.int .i64 a2)] (eq (.bool r)) := by
  unfold concourselaw21_SyncKeys.f at h
  refine (Tr.body Try.func3 (c := _) rfl Try.ntmps3 (Nat.le_of_ble_eq_true rfl) fun R0 F => ?_).pt
  replace h := Gets.of h
  have H := h
  clear h
  refine WP.seq ?_
  refine WP.reg [(0, true), (1, true), (2, false)] (by kernel_rfl) ?_
  refine Dv.box rfl trivial rfl (cells_agg (SKAt.K.one _)) nofun (fun b81 => ?_)
  refine Dv.box rfl trivial rfl (cells_agg (SKAt.K.one _)) nofun (fun b82 => ?_)
  refine Dv.asg rfl trivial rfl ?_
  refine .fin ?_
  refine WP.seq ?_
  refine WP.reg [(0, false), (1, false), (2, false), (3, true), (4, true)] (by kernel_rfl) ?_
  refine Dv.ldbs rfl trivial rfl Try.underlying27 rfl c27 (mem_at 1 rfl) (Nat.le_of_ble_eq_true rfl) ?_
  obtain ⟨t83, h84, H⟩ := Gets.call H
  refine Dv.call rfl trivial cal4 rfl (concourseref11_Good.c h84) ?_
  refine Dv.flds rfl trivial rfl Try.underlying27 rfl Try.underlying23 rfl c23 ?_
  refine Dv.alloc (z := .agg #[.string ⟨#[]⟩, .string ⟨#[]⟩, .string ⟨#[]⟩, .bool false]) (qs := [eq (.string (⟨#[]⟩ : ByteArray)), eq (.string (⟨#[]⟩ : ByteArray)), eq (.string (⟨#[]⟩ : ByteArray)), eq (.bool false)]) rfl trivial z23 rfl nofun (fun b85 => ?_)
  refine Dv.stb rfl trivial rfl rfl (cells_agg (SRooUseThrPri.K.one _)) Try.underlying23 c23 rfl (j := 0) rfl (Nat.le_of_ble_eq_true rfl) nofun ?_
  refine .fin ?_
  refine WP.seq ?_
  refine WP.reg [(0, false), (1, false), (2, false), (3, true), (4, true)] (by kernel_rfl) ?_
  refine Dv.ldbs rfl trivial rfl Try.underlying27 rfl c27 (mem_at 1 rfl) (Nat.le_of_ble_eq_true rfl) ?_
  obtain ⟨t86, h87, H⟩ := Gets.call H
  refine Dv.call rfl trivial cal4 rfl (concourseref11_Good.c h87) ?_
  refine Dv.flds rfl trivial rfl Try.underlying27 rfl Try.underlying23 rfl c23 ?_
  refine Dv.alloc (z := .agg #[.string ⟨#[]⟩, .string ⟨#[]⟩, .string ⟨#[]⟩, .bool false]) (qs := [eq (.string (⟨#[]⟩ : ByteArray)), eq (.string (⟨#[]⟩ : ByteArray)), eq (.string (⟨#[]⟩ : ByteArray)), eq (.bool false)]) rfl trivial z23 rfl nofun (fun b88 => ?_)
  refine Dv.stb rfl trivial rfl rfl (cells_agg (SRooUseThrPri.K.one _)) Try.underlying23 c23 rfl (j := 0) rfl (Nat.le_of_ble_eq_true rfl) nofun ?_
  refine .fin ?_
  refine WP.seq ?_
  refine WP.reg [(0, false), (1, false), (2, false)] (by kernel_rfl) ?_
  refine Dv.ldbs rfl trivial rfl Try.underlying23 rfl c23 (mem_at 1 rfl) (Nat.le_of_ble_eq_true rfl) ?_
  obtain ⟨t89, h90, H⟩ := Gets.call H
  refine Dv.call rfl trivial cal5 rfl (sync_MarkKey.c h90) ?_
  refine Dv.asg rfl trivial rfl ?_
  refine .fin ?_
  refine WP.seq ?_
  refine WP.reg [(0, false), (1, false), (2, false)] (by kernel_rfl) ?_
  refine Dv.ldbs rfl trivial rfl Try.underlying23 rfl c23 (mem_at 0 rfl) (Nat.le_of_ble_eq_true rfl) ?_
  obtain ⟨t91, h92, H⟩ := Gets.call H
  refine Dv.call rfl trivial cal5 rfl (sync_MarkKey.c h92) ?_
  refine Dv.asg rfl trivial rfl ?_
  refine .fin ?_
  refine WP.seq ?_
  refine WP.reg [(0, false), (1, false), (2, false)] (by kernel_rfl) ?_
  refine Dv.mv rfl trivial rfl ?_
  obtain ⟨t93, h94, H⟩ := Gets.call H
  refine Dv.call rfl trivial cal6 rfl (concourseref01_RoomOf.c h94) ?_
  refine Dv.asg rfl trivial rfl ?_
  refine .fin ?_
  refine WP.seq ?_
  refine WP.reg [(0, false), (1, false), (2, false)] (by kernel_rfl) ?_
  refine Dv.mv rfl trivial rfl ?_
  obtain ⟨t95, h96, H⟩ := Gets.call H
  refine Dv.call rfl trivial cal7 rfl (concourseref01_UserOf.c h96) ?_
  refine Dv.asg rfl trivial rfl ?_
  refine .fin ?_
  refine WP.seq ?_
  refine WP.reg [(0, false), (1, false), (2, false), (3, false), (4, false), (5, false), (6, false), (7, false), (8, false), (9, false), (10, false), (11, false), (12, false), (13, false), (14, false), (15, false), (16, false), (17, false), (18, false), (19, false), (20, false), (21, false), (22, false), (23, false), (24, false), (25, false), (26, false), (27, false), (28, false), (29, false), (30, false), (31, false), (32, false), (33, false)] (by kernel_rfl) ?_
  refine Dv.mv rfl trivial rfl ?_
  refine Dv.ldbs rfl trivial rfl Try.underlying23 rfl c23 (mem_at 1 rfl) (Nat.le_of_ble_eq_true rfl) ?_
  refine Dv.bld (css := [[eq (.int .i64 1)], SRooUseThrPri.enc t83.fK]) rfl trivial Try.underlying34 pl34 z34 rfl ⟨(cells_one (one_eq rfl)), ⟨(cells_agg (SRooUseThrPri.K.one _)), trivial⟩⟩ rfl rfl ?_
  obtain ⟨t97, h98, H⟩ := Gets.call H
  refine Dv.call rfl trivial cal8 rfl (concourseref21_Key.c h98) ?_
  refine Dv.bin rfl trivial rfl rfl (fun _ => run_seq) ?_
  refine Dv.mv rfl trivial rfl ?_
  cases c99 : decide (t89 = t97)
  · replace H := Gets.cf H c99
    refine Dv.skip rfl ⟨_, _, rfl, rfl, rfl⟩ ?_
    refine Dv.skip rfl ⟨_, _, rfl, rfl, rfl⟩ ?_
    refine Dv.skip rfl ⟨_, _, rfl, rfl, rfl⟩ ?_
    refine Dv.skip rfl ⟨_, _, rfl, rfl, rfl⟩ ?_
    refine Dv.skip rfl ⟨_, _, rfl, rfl, rfl⟩ ?_
    refine Dv.skip rfl ⟨_, _, rfl, rfl, rfl⟩ ?_
    refine Dv.skip rfl ⟨_, _, rfl, rfl, rfl⟩ ?_
    refine Dv.pickF rfl trivial rfl rfl ?_
    refine Dv.mv rfl trivial rfl ?_
    refine Dv.skip rfl ⟨_, _, rfl, rfl, rfl⟩ ?_
    refine Dv.skip rfl ⟨_, _, rfl, rfl, rfl⟩ ?_
    refine Dv.skip rfl ⟨_, _, rfl, rfl, rfl⟩ ?_
    refine Dv.skip rfl ⟨_, _, rfl, rfl, rfl⟩ ?_
    refine Dv.skip rfl ⟨_, _, rfl, rfl, rfl⟩ ?_
    refine Dv.skip rfl ⟨_, _, rfl, rfl, rfl⟩ ?_
    refine Dv.pickF rfl trivial rfl rfl ?_
    refine Dv.mv rfl trivial rfl ?_
    refine Dv.skip rfl ⟨_, _, rfl, rfl, rfl⟩ ?_
    refine Dv.skip rfl ⟨_, _, rfl, rfl, rfl⟩ ?_
    refine Dv.skip rfl ⟨_, _, rfl, rfl, rfl⟩ ?_
    refine Dv.skip rfl ⟨_, _, rfl, rfl, rfl⟩ ?_
    refine Dv.skip rfl ⟨_, _, rfl, rfl, rfl⟩ ?_
    refine Dv.skip rfl ⟨_, _, rfl, rfl, rfl⟩ ?_
    refine Dv.pickF rfl trivial rfl rfl ?_
    refine Dv.mv rfl trivial rfl ?_
    refine Dv.skip rfl ⟨_, _, rfl, rfl, rfl⟩ ?_
    refine Dv.pickF rfl trivial rfl rfl ?_
    refine Dv.asg rfl trivial rfl ?_
    refine .fin ?_
    obtain rfl := Gets.out H
    exact WP.retL (fun _ _ h => h) rfl () trivial (.cons (res_tmp rfl) .nil) rfl (fun _ _ h => h.drop.drop.drop.drop)
  · replace H := Gets.ct H c99
    refine Dv.mv rfl ⟨_, _, rfl, rfl, rfl⟩ rfl ?_
    refine Dv.mv rfl ⟨_, _, rfl, rfl, rfl⟩ rfl ?_
    refine Dv.bin rfl ⟨_, _, rfl, rfl, rfl⟩ rfl rfl (fun _ => run_seq) ?_
    refine Dv.ldbs rfl ⟨_, _, rfl, rfl, rfl⟩ rfl Try.underlying23 rfl c23 (mem_at 1 rfl) (Nat.le_of_ble_eq_true rfl) ?_
    refine Dv.ldbs rfl ⟨_, _, rfl, rfl, rfl⟩ rfl Try.underlying23 rfl c23 (mem_at 0 rfl) (Nat.le_of_ble_eq_true rfl) ?_
    refine Dv.eqs [.string t83.fK.fRoom, .string t83.fK.fUser, .string t83.fK.fThread, .bool t83.fK.fPrivate] [.string t86.fK.fRoom, .string t86.fK.fUser, .string t86.fK.fThread, .bool t86.fK.fPrivate] rfl ⟨_, _, rfl, rfl, rfl⟩ rfl rfl rfl rfl eg23 (fun _ => equal_of 2 (by decide) (fun _ => eqt23 t83.fK t86.fK)) ?_
    refine Dv.bin rfl ⟨_, _, rfl, rfl, rfl⟩ rfl rfl (fun _ => run_beq Try.underlying4) ?_
    refine Dv.pickT rfl trivial rfl rfl ?_
    refine Dv.mv rfl trivial rfl ?_
    cases c100 : ((decide (t89 = t91)) == (decide (t83.fK = t86.fK)))
    · replace H := Gets.cf H c100
      refine Dv.skip rfl ⟨_, _, rfl, rfl, rfl⟩ ?_
      refine Dv.skip rfl ⟨_, _, rfl, rfl, rfl⟩ ?_
      refine Dv.skip rfl ⟨_, _, rfl, rfl, rfl⟩ ?_
      refine Dv.skip rfl ⟨_, _, rfl, rfl, rfl⟩ ?_
      refine Dv.skip rfl ⟨_, _, rfl, rfl, rfl⟩ ?_
      refine Dv.skip rfl ⟨_, _, rfl, rfl, rfl⟩ ?_
      refine Dv.pickF rfl trivial rfl rfl ?_
      refine Dv.mv rfl trivial rfl ?_
      refine Dv.skip rfl ⟨_, _, rfl, rfl, rfl⟩ ?_
      refine Dv.skip rfl ⟨_, _, rfl, rfl, rfl⟩ ?_
      refine Dv.skip rfl ⟨_, _, rfl, rfl, rfl⟩ ?_
      refine Dv.skip rfl ⟨_, _, rfl, rfl, rfl⟩ ?_
      refine Dv.skip rfl ⟨_, _, rfl, rfl, rfl⟩ ?_
      refine Dv.skip rfl ⟨_, _, rfl, rfl, rfl⟩ ?_
      refine Dv.pickF rfl trivial rfl rfl ?_
      refine Dv.mv rfl trivial rfl ?_
      refine Dv.skip rfl ⟨_, _, rfl, rfl, rfl⟩ ?_
      refine Dv.pickF rfl trivial rfl rfl ?_
      refine Dv.asg rfl trivial rfl ?_
      refine .fin ?_
      obtain rfl := Gets.out H
      exact WP.retL (fun _ _ h => h) rfl () trivial (.cons (res_tmp rfl) .nil) rfl (fun _ _ h => h.drop.drop.drop.drop)
    · replace H := Gets.ct H c100
      refine Dv.mv rfl ⟨_, _, rfl, rfl, rfl⟩ rfl ?_
      obtain ⟨t101, h102, H⟩ := Gets.call H
      refine Dv.call rfl ⟨_, _, rfl, rfl, rfl⟩ cal9 rfl (sync_RoomKey.c h102) ?_
      refine Dv.mv rfl ⟨_, _, rfl, rfl, rfl⟩ rfl ?_
      refine Dv.bld (css := [[eq (.int .i64 2)], [eq (.string t93)]]) rfl ⟨_, _, rfl, rfl, rfl⟩ Try.underlying34 pl34 z34 rfl ⟨(cells_one (one_eq rfl)), ⟨(cells_one (one_eq rfl)), trivial⟩⟩ rfl rfl ?_
      obtain ⟨t103, h104, H⟩ := Gets.call H
      refine Dv.call rfl ⟨_, _, rfl, rfl, rfl⟩ cal8 rfl (concourseref21_Key.c h104) ?_
      refine Dv.bin rfl ⟨_, _, rfl, rfl, rfl⟩ rfl rfl (fun _ => run_seq) ?_
      refine Dv.pickT rfl trivial rfl rfl ?_
      refine Dv.mv rfl trivial rfl ?_
      cases c105 : decide (t101 = t103)
      · replace H := Gets.cf H c105
        refine Dv.skip rfl ⟨_, _, rfl, rfl, rfl⟩ ?_
        refine Dv.skip rfl ⟨_, _, rfl, rfl, rfl⟩ ?_
        refine Dv.skip rfl ⟨_, _, rfl, rfl, rfl⟩ ?_
        refine Dv.skip rfl ⟨_, _, rfl, rfl, rfl⟩ ?_
        refine Dv.skip rfl ⟨_, _, rfl, rfl, rfl⟩ ?_
        refine Dv.skip rfl ⟨_, _, rfl, rfl, rfl⟩ ?_
        refine Dv.pickF rfl trivial rfl rfl ?_
        refine Dv.mv rfl trivial rfl ?_
        refine Dv.skip rfl ⟨_, _, rfl, rfl, rfl⟩ ?_
        refine Dv.pickF rfl trivial rfl rfl ?_
        refine Dv.asg rfl trivial rfl ?_
        refine .fin ?_
        obtain rfl := Gets.out H
        exact WP.retL (fun _ _ h => h) rfl () trivial (.cons (res_tmp rfl) .nil) rfl (fun _ _ h => h.drop.drop.drop.drop)
      · replace H := Gets.ct H c105
        refine Dv.mv rfl ⟨_, _, rfl, rfl, rfl⟩ rfl ?_
        obtain ⟨t106, h107, H⟩ := Gets.call H
        refine Dv.call rfl ⟨_, _, rfl, rfl, rfl⟩ cal10 rfl (sync_UserKey.c h107) ?_
        refine Dv.mv rfl ⟨_, _, rfl, rfl, rfl⟩ rfl ?_
        refine Dv.bld (css := [[eq (.int .i64 3)], [eq (.string t95)]]) rfl ⟨_, _, rfl, rfl, rfl⟩ Try.underlying34 pl34 z34 rfl ⟨(cells_one (one_eq rfl)), ⟨(cells_one (one_eq rfl)), trivial⟩⟩ rfl rfl ?_
        obtain ⟨t108, h109, H⟩ := Gets.call H
        refine Dv.call rfl ⟨_, _, rfl, rfl, rfl⟩ cal8 rfl (concourseref21_Key.c h109) ?_
        refine Dv.bin rfl ⟨_, _, rfl, rfl, rfl⟩ rfl rfl (fun _ => run_seq) ?_
        refine Dv.pickT rfl trivial rfl rfl ?_
        refine Dv.mv rfl trivial rfl ?_
        cases c110 : decide (t106 = t108)
        · replace H := Gets.cf H c110
          refine Dv.skip rfl ⟨_, _, rfl, rfl, rfl⟩ ?_
          refine Dv.pickF rfl trivial rfl rfl ?_
          refine Dv.asg rfl trivial rfl ?_
          refine .fin ?_
          obtain rfl := Gets.out H
          exact WP.retL (fun _ _ h => h) rfl () trivial (.cons (res_tmp rfl) .nil) rfl (fun _ _ h => h.drop.drop.drop.drop)
        · replace H := Gets.ct H c110
          obtain ⟨t111, h112, H⟩ := Gets.call H
          refine Dv.call rfl ⟨_, _, rfl, rfl, rfl⟩ cal11 rfl (concourselaw21_lives.c h112) ?_
          refine Dv.pickT rfl trivial rfl rfl ?_
          refine Dv.asg rfl trivial rfl ?_
          refine .fin ?_
          obtain rfl := Gets.out H
          exact WP.retL (fun _ _ h => h) rfl () trivial (.cons (res_tmp rfl) .nil) rfl (fun _ _ h => h.drop.drop.drop.drop)
end Go.Proofs.Ytneaogmbdpboiaa
