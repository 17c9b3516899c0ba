/- Short forms. -/
import Derived.Test.YtegmafgodoikiaaGreatConZ
set_option linter.all false
namespace Go.Sp
open Go
theorem perm_ton {l l' : List As} (n : Nat) (js : List Nat) (h : js.isPerm (List.range n) = true) (e : (l.take n).length = n) (e' : sel (l.take n) js ++ l.drop n = l') : l.Perm l' :=
  perm_to (L := l.take n) (F := l.drop n) js (by rw [e]; exact h) (List.take_append_drop n l) e'
theorem st_seln {l l' : List As} (n : Nat) (js : List Nat) (d : Nat) (h : js.isPerm (List.range n) = true) (e : (l.take n).length = n) (e' : (sel (l.take n) js ++ l.drop n).drop d = l') : ∀ R w, St R l w → St R l' w :=
  st_sel (L := l.take n) (F := l.drop n) js d (by rw [e]; exact h) (List.take_append_drop n l) e'
theorem st_selgn {l l' : List As} (n : Nat) (js : List Nat) (d : Nat) (h : js.isPerm (List.range n) = true) (e : (l.take n).length = n) (e' : (sel (l.take n) js ++ l.drop n).drop d = l') : ∀ R w, St R l w → ∃ _ : Unit, True ∧ St R l' w := fun R w k => ⟨(), trivial, st_seln n js d h e e' R w k⟩
section
variable {P : Program} {ops : Array Oper} {n : Nat} {dr : Bool} {R0 : Fz} {K : Act → World → Prop} {E : Env} {l : List As} {pend : List (Nat × (List As → Prop))} {rest : List (Nat × Bool)} {i d : Nat}
variable {T : TypeId} {ps : String} {af : Array Edge} {x y : Operand} {p : VP}
theorem sk {o o' : Oper} {j t : Nat} {b : Bool} (ho : opAt ops.toList i = some o) (hgd : o.guard = some (j, b)) (h1 : opAt ops.toList j = some o') (h2 : o'.dst = some t) (h3 : find E t = some (eq (.bool !b)))
    (k : Dv P ops n dr R0 K (ext E o.dst (eq undef)) l ((i, tt) :: pend) rest) : Dv P ops n dr R0 K E l pend ((i, false) :: rest) := Dv.skip ho (by rw [hgd]; exact ⟨o', t, h1, h2, .inl h3⟩) k
theorem mv0 (ho : opAt ops.toList i = some ⟨some d, .move x, T, ps, af, none⟩) (hx : opv E x = some p) (k : Dv P ops n dr R0 K ((d, p) :: E) l ((i, tt) :: pend) rest) : Dv P ops n dr R0 K E l pend ((i, false) :: rest) := Dv.mv ho trivial hx k
theorem as0 (ho : opAt ops.toList i = some ⟨some d, .assign x, T, ps, af, none⟩) (hx : opv E x = some p) (k : Dv P ops n dr R0 K ((d, p) :: E) l ((i, tt) :: pend) rest) : Dv P ops n dr R0 K E l pend ((i, false) :: rest) := Dv.asg ho trivial hx k
end
end Go.Sp
