/- Calls of what has no body: the machine's own. -/
import Derived.Test.YtigmkniiojpdiaaGreatConM
import Derived.Lib.Bytealg
set_option linter.all false
namespace Go.Sp
open Go
theorem run_ext {P : Program} {f : FuncId} {fn : Func} {args : Array Value} {e : Array Value → Sem Value} {v : Value} {w : World} (hf : P.funcs[f]? = some fn) (hn : (fn.name == "runtime.NumGoroutine") = false) (hb : fn.body = none) (h1 : (Extern.findNext fn).isNone = true) (h2 : Extern.find fn = some e) (he : (e args).run P w = .ok v w) : (callFunc f args).run P w = .ok (.value v) w := by
  unfold callFunc
  have h1' : Extern.findNext fn = none := by cases h : Extern.findNext fn <;> simp_all
  have hn' : ¬ fn.name = "runtime.NumGoroutine" := by simpa using hn
  simp [hf, hn', hb, h1', h2, he]
/-- What the machine's own gives. -/
def Xt (P : Program) (f : FuncId) (vs : List VP) (ret : VP) : Prop := ∀ (R : Fz) (w : World) (l : List As) (us : List Value), Cs.h R vs us → St R l w → ∃ v, ret.p R v ∧ (callFunc f us.toArray).run P w = .ok (.value v) w
section
variable {P : Program} {ops : Array Oper} {n : Nat} {dr : Bool} {R0 : Fz} {K : Act → World → Prop} {E : Env} {l : List As} {pend : List (Nat × (List As → Prop))} {rest : List (Nat × Bool)} {i d : Nat}
variable {T : TypeId} {ps : String} {af : Array Edge} {g : Option (Nat × Bool)} {x y : Operand}
theorem Dv.cext {f : FuncId} {as : Array Operand} {ts : Array TypeId} {vs : List VP} {ret : VP} (ho : opAt ops.toList i = some ⟨some d, .call ⟨.value (.func f), as, ts⟩, T, ps, af, g⟩) (hg : GOn ops E g)
    (hv : opvs E as.toList = some vs) (ht : Xt P f vs ret) (k : Dv P ops n dr R0 K ((d, ret) :: E) l ((i, tt) :: pend) rest) : Dv P ops n dr R0 K E l pend ((i, false) :: rest) :=
  Dv.okd tt ret ho (OpOk.val hg fun R a w l hx _ hst => by
    have h1 := opvs_ok (a := a) (R := R) (fun x hxx p hp => hx x (by simp [Op.operands, Call.operands]; exact .inr (by simpa using hxx)) p hp) hv
    obtain ⟨v, hv2, hr⟩ := ht R w l _ h1 hst
    refine ⟨R, v, w, Fz.le_refl R, hv2, hst, ?_⟩
    have e : as.map a.eval = (as.toList.map a.eval).toArray := by apply Array.ext'; simp
    simp [execOp, resolve, Deferred.ofValue, invoke, Act.eval, e, hr]) trivial k
end
/-- IndexByteString, where a byte stands first. -/
def idxB (s : ByteArray) (c : Int) : Int := Lib.indexByte s.data.toList c.toNat.toUInt8
theorem xt_index {P : Program} {f : FuncId} {fn : Func} {s : ByteArray} {c : Int} (hf : P.funcs[f]? = some fn) (hn : (fn.name == "runtime.NumGoroutine") = false) (hb : fn.body = none) (h1 : (Extern.findNext fn).isNone = true) (h2 : Extern.find fn = some Extern.BytealgIndexByte.indexByte) :
    Xt P f [eq (.string s), eq (.int .u8 c)] (eq (.int .i64 (idxB s c))) := fun R w l us hu _ => by
  cases hu with
  | cons a1 hu => cases hu with
    | cons a2 hu =>
      cases hu
      simp only [eq_p] at a1 a2
      subst a1 a2
      exact ⟨_, rfl, run_ext hf hn hb h1 h2 (Lib.run_indexByteString s c w)⟩
/-- Bytes compared, as Compare does it. -/
def cmpB (xs ys : List Int) : Int := Extern.BytealgCompare.cmp (ofNums xs) (ofNums ys)
theorem run_loadBytes {P : Program} {R : Fz} {w : World} {b : Nat} {c : Array Value} {T : TypeId} {fr : Nat × Nat} (h : w.heap[b]? = some (.cells c T fr)) :
    ∀ (xs : List Int) (off : Nat) (acc : ByteArray), Cs.h R (xs.flatMap (intK .u8).enc) ((c.toList.drop off).take xs.length) → (Extern.Bytes.loadBytes ⟨b, off, none⟩ xs.length acc).run P w = .ok ⟨(acc.data.toList ++ xs.map fun n => UInt8.ofNat n.toNat).toArray⟩ w
  | [], off, acc, _ => by simp [Extern.Bytes.loadBytes]
  | x :: xs, off, acc, hc => by
    have hlen := All2.length hc
    simp only [List.flatMap_cons, List.length_append, List.length_take, List.length_drop, List.length_cons] at hlen
    have h1 : ((intK .u8).enc x).length = 1 := rfl
    have hlt : off < c.toList.length := by omega
    rw [List.drop_eq_getElem_cons hlt, List.length_cons, List.take_succ_cons] at hc
    cases hc with
    | cons a1 a2 =>
      have e := a1
      simp only [eq_p] at e
      have hcell : c[off]? = some (.int .u8 x) := by
        have : c.toList[off]? = some (.int .u8 x) := by rw [List.getElem?_eq_getElem hlt, e]
        simpa using this
      have ih := run_loadBytes (P := P) h xs (off + 1) (acc.push (UInt8.ofNat x.toNat)) a2
      simp only [List.length_cons, Extern.Bytes.loadBytes, Sem.run_bind, run_load, cell_at h, hcell, Result.andThen_ok, add_eq]
      have ih2 : (Extern.Bytes.loadBytes ⟨b, off + 1, none⟩ xs.length (acc.push x.toNat.toUInt8)).run P w = _ := ih
      rw [ih2]
      simp [ByteArray.push]
theorem run_bytesOf {P : Program} {R : Fz} {w : World} {l : List As} {u : Value} {xs : List Int} (h : (sl (intK .u8) xs).p R u) (hst : St R l w) : (Extern.Bytes.bytesOf u).run P w = .ok (ofNums xs) w := by
  rcases h with ⟨a, c, e, e2⟩ | ⟨b, off, c, bT, fr, cs, e, hl, hm, hc, hh⟩
  · subst e2
    cases a <;> simp [e, Extern.Bytes.bytesOf, Extern.Bytes.loadBytes, ofNums] <;> rfl
  · have hb := hst.base.frz b _ hm
    have e1 : (intK IntKind.u8).sz = 1 := rfl
    rw [e1, Nat.mul_one] at hh
    have := run_loadBytes (P := P) hb xs off .empty hh
    simp only [e, Extern.Bytes.bytesOf, this]
    rfl
theorem xt_cmp {P : Program} {f : FuncId} {fn : Func} {xs ys : List Int} (hf : P.funcs[f]? = some fn) (hn : (fn.name == "runtime.NumGoroutine") = false) (hb : fn.body = none) (h1 : (Extern.findNext fn).isNone = true) (h2 : Extern.find fn = some Extern.BytealgCompare.compare) :
    Xt P f [sl (intK .u8) xs, sl (intK .u8) ys] (eq (.int .i64 (cmpB xs ys))) := fun R w l us hu hst => by
  cases hu with
  | cons a1 hu => cases hu with
    | cons a2 hu =>
      cases hu
      refine ⟨_, rfl, run_ext hf hn hb h1 h2 ?_⟩
      rename_i v1 v2
      show (do let x ← Extern.Bytes.bytesOf v1; let y ← Extern.Bytes.bytesOf v2; pure (goInt (Extern.BytealgCompare.cmp x y)) : Sem Value).run P w = _
      simp only [Sem.run_bind, run_bytesOf a1 hst, run_bytesOf a2 hst, Result.andThen_ok, Sem.run_pure]
      rfl
theorem run_shr {P : Program} {w : World} {x y : Operand} {xT : TypeId} {kd ky : IntKind} {m m' : Int} (h : 0 ≤ m' ∧ m'.toNat ≤ kd.bits) : (do eqGuard .shr xT x y (.int kd m) (.int ky m'); binOp .shr xT (.int kd m) (.int ky m') : Sem Value).run P w = .ok (.int kd (m.fdiv (2 ^ m'.toNat))) w := by
  have h1 : ¬ m' < 0 := by omega
  simp [eqGuard, binOp, Op.shift, h1, Nat.min_eq_left h.2]
end Go.Sp
