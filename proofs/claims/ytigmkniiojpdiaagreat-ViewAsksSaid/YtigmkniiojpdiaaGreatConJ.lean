/- Steps of thought: rows begun, frozen, lent; things opened and shut. -/
import Derived.Test.YtigmkniiojpdiaaGreatConI
set_option linter.all false
namespace Go.Sp
open Go

/-- The memory m, parted among assertions. -/
def Bs (R : Fz) : Mem → List As → Prop
  | m, [] => m = []
  | m, A :: l => ∃ m1 m2, A.p R m1 ∧ Bs R m2 l ∧ m.Perm (m1 ++ m2)
theorem Bs.mono {R R' : Fz} (h : R.le R') : ∀ {l : List As} {m : Mem}, Bs R m l → Bs R' m l
  | [], _, k => k
  | A :: _, _, ⟨m1, m2, h1, h2, hp⟩ => ⟨m1, m2, A.mono h h1, Bs.mono h h2, hp⟩
theorem Bs.perm {R : Fz} : ∀ {l : List As} {m m' : Mem}, m.Perm m' → Bs R m l → Bs R m' l
  | [], _, _, hp, k => by simp only [Bs] at *; subst k; exact List.nil_perm.1 hp
  | _ :: _, _, _, hp, ⟨m1, m2, h1, h2, hq⟩ => ⟨m1, m2, h1, h2, hp.symm.trans hq⟩
theorem Bs.app {R : Fz} : ∀ {l k : List As} {m m' : Mem}, Bs R m l → Bs R m' k → Bs R (m ++ m') (l ++ k)
  | [], _, m, m', h, hk => by simp only [Bs] at h; subst h; exact hk
  | A :: l, k, m, m', ⟨m1, m2, h1, h2, hp⟩, hk => ⟨m1, m2 ++ m', h1, Bs.app h2 hk, by rw [← List.append_assoc]; exact hp.append_right _⟩
theorem Bs.split {R : Fz} : ∀ {l k : List As} {m : Mem}, Bs R m (l ++ k) → ∃ m1 m2, Bs R m1 l ∧ Bs R m2 k ∧ m.Perm (m1 ++ m2)
  | [], _, m, h => ⟨[], m, rfl, h, List.Perm.refl _⟩
  | A :: l, k, m, ⟨m1, m2, h1, h2, hp⟩ => by
    obtain ⟨n1, n2, k1, k2, kp⟩ := Bs.split h2
    exact ⟨m1 ++ n1, n2, ⟨m1, n1, h1, k1, List.Perm.refl _⟩, k2, by rw [List.append_assoc]; exact hp.trans (kp.append_left _)⟩
theorem Stm.to_bs {R : Fz} {w : World} : ∀ {l : List As} {m0 : Mem}, Stm R m0 l w → ∃ m, Bs R m l ∧ Base R (m ++ m0) w
  | [], m0, h => ⟨[], rfl, h⟩
  | A :: l, m0, ⟨m1, h1, h2⟩ => by
    obtain ⟨m, hb, hw⟩ := Stm.to_bs h2
    exact ⟨m1 ++ m, ⟨m1, m, h1, hb, List.Perm.refl _⟩, hw.perm (by rw [← List.append_assoc]; exact List.perm_append_comm.append_right _)⟩
theorem Stm.of_bs {R : Fz} {w : World} : ∀ {l : List As} {m m0 : Mem}, Bs R m l → Base R (m ++ m0) w → Stm R m0 l w
  | [], m, m0, h, hw => by simp only [Bs] at h; subst h; exact hw
  | A :: l, m, m0, ⟨m1, m2, h1, h2, hp⟩, hw => ⟨m1, h1, Stm.of_bs h2 (hw.perm ((hp.append_right _).trans (by
    rw [← List.append_assoc]; exact List.perm_append_comm.append_right _)))⟩
theorem St.to_bs {R : Fz} {w : World} {l : List As} (h : St R l w) : ∃ m, Bs R m l ∧ Base R m w := by
  obtain ⟨m, h1, h2⟩ := Stm.to_bs h
  exact ⟨m, h1, by simpa using h2⟩
theorem St.of_bs {R : Fz} {w : World} {l : List As} {m : Mem} (h : Bs R m l) (hw : Base R m w) : St R l w := Stm.of_bs h (by simpa using hw)

/-! #### values and assertions that hang on nothing frozen -/
def Flat (p : VP) : Prop := ∀ R R' v, p.p R v → p.p R' v
def FlatA (A : As) : Prop := ∀ R R' m, A.p R m → A.p R' m
def Flats (ps : Cs) : Prop := ∀ p ∈ ps, Flat p
theorem flat_eq {v : Value} : Flat (eq v) := fun _ _ _ h => h
theorem flats_nil : Flats [] := fun _ h => by cases h
theorem flats_cons {p : VP} {ps : Cs} (h : Flat p) (k : Flats ps) : Flats (p :: ps) := fun q hq => by
  rcases List.mem_cons.1 hq with rfl | hq
  · exact h
  · exact k q hq
theorem Flats.h {ps : Cs} (h : Flats ps) {R R' : Fz} {cs : List Value} (k : Cs.h R ps cs) : Cs.h R' ps cs := by
  induction k with
  | nil => exact .nil
  | cons h1 _ ih => exact .cons (h _ (List.mem_cons_self ..) _ _ _ h1) (ih fun q hq => h q (List.mem_cons_of_mem _ hq))
theorem flat_agg {ps : Cs} (h : Flats ps) : Flat (agg ps) := fun _ _ _ ⟨cs, e, hc⟩ => ⟨cs, e, h.h hc⟩
theorem flat_tup {ps : Cs} (h : Flats ps) : Flat (tup ps) := fun _ _ _ ⟨cs, e, hc⟩ => ⟨cs, e, h.h hc⟩
def FlatK {α : Type} (K : Kd α) : Prop := ∀ x, Flats (K.enc x)
theorem flatK_int {k : IntKind} : FlatK (intK k) := fun _ => flats_cons flat_eq flats_nil
theorem flatK_bool : FlatK boolK := fun _ => flats_cons flat_eq flats_nil
theorem flatK_str : FlatK strK := fun _ => flats_cons flat_eq flats_nil
theorem flats_flatMap {α : Type} {K : Kd α} (h : FlatK K) (xs : List α) : Flats (xs.flatMap K.enc) := fun q hq => by
  obtain ⟨x, _, hx⟩ := List.mem_flatMap.1 hq
  exact h x q hx
theorem flatA_own {α : Type} {K : Kd α} {v : Value} {xs : List α} (h : FlatK K) : FlatA (own K v xs) := fun R R' m hm => by
  rcases hm with hm | ⟨b, off, c, T, fr, cs, e, hl, hm, hc, hf, hh⟩
  · exact .inl hm
  · exact .inr ⟨b, off, c, T, fr, cs, e, hl, hm, hc, hf, (flats_flatMap h xs).h hh⟩
theorem flatA_blk {b : Nat} {T : TypeId} {ps : Cs} (h : Flats ps) : FlatA (blk b T ps) := fun _ _ _ ⟨cs, e, hc⟩ => ⟨cs, e, h.h hc⟩
def FlatAs (l : List As) : Prop := ∀ A ∈ l, FlatA A
theorem flatAs_nil : FlatAs [] := fun _ h => by cases h
theorem flatAs_cons {A : As} {l : List As} (h : FlatA A) (k : FlatAs l) : FlatAs (A :: l) := fun q hq => by
  rcases List.mem_cons.1 hq with rfl | hq
  · exact h
  · exact k q hq
theorem FlatAs.bs {R R' : Fz} : ∀ {l : List As} {m : Mem}, FlatAs l → Bs R m l → Bs R' m l
  | [], _, _, h => h
  | A :: l, _, hf, ⟨m1, m2, h1, h2, hp⟩ => ⟨m1, m2, hf A (List.mem_cons_self ..) _ _ _ h1, FlatAs.bs (fun B hB => hf B (List.mem_cons_of_mem _ hB)) h2, hp⟩

/-! #### things -/
/-- Some g of which ok holds, and what f tells of it. -/
def exA {γ : Type} (ok : γ → Prop) (f : γ → List As) : As := ⟨fun R m => ∃ g, ok g ∧ Bs R m (f g), fun hR ⟨g, h, k⟩ => ⟨g, h, k.mono hR⟩⟩
theorem flatA_ex {γ : Type} {ok : γ → Prop} {f : γ → List As} (h : ∀ g, FlatAs (f g)) : FlatA (exA ok f) := fun _ _ _ ⟨g, hg, k⟩ => ⟨g, hg, (h g).bs k⟩

/-! #### steps of thought -/
def Gh (n : Nat) (R0 : Fz) (E : Env) (l : List As) {γ : Type} (ok : γ → Prop) (E' : γ → Env) (l' : γ → List As) : Prop :=
  ∀ R a w, R0.le R → Agr n R a E → St R l w → ∃ g R', ok g ∧ R.le R' ∧ Agr n R' a (E' g) ∧ St R' (l' g) w
section
variable {P : Program} {ops : Array Oper} {n : Nat} {R0 : Fz} {K : Act → World → Prop} {Q : Exit → Act → World → Prop} {E : Env} {l : List As} {pend : List (Nat × (List As → Prop))} {c : List (Nat × Bool)}
variable {γ : Type} {ok : γ → Prop} {E' : γ → Env} {l' : γ → List As}
theorem Dv.gh (h : Gh n R0 E l ok E' l') (k : ∀ g, ok g → Dv P ops n false R0 K (E' g) (l' g) pend c) : Dv P ops n false R0 K E l pend c := .ghe ok E' l' rfl h k
theorem WP.gh {c : Code} (h : Gh n R0 E l ok E' l') (k : ∀ g, ok g → WP P n R0 c Q (E' g) (l' g)) : WP P n R0 c Q E l := fun R a w h0 ha hs => by
  obtain ⟨g, R', hg, hR, ha', hs'⟩ := h R a w h0 ha hs
  exact k g hg R' a w (Fz.le_trans h0 hR) ha' hs'
theorem Dn.gh {G : Act → World → Prop} (h : Gh n R0 E l ok E' l') (k : ∀ g, ok g → ∀ R a w, R0.le R → Agr n R a (E' g) → St R (l' g) w → G a w) : ∀ R a w, R0.le R → Agr n R a E → St R l w → G a w := fun R a w h0 ha hs => by
  obtain ⟨g, R', hg, hR, ha', hs'⟩ := h R a w h0 ha hs
  exact k g hg R' a w (Fz.le_trans h0 hR) ha' hs'
/-- One that is told of the owned alone, in any region. -/
theorem Dv.ga {dr : Bool} (ok : γ → Prop) (l' : γ → List As) (h : ∀ R w, St R l w → ∃ g, ok g ∧ St R (l' g) w) (hq : dr = true → ∀ x ∈ pend, ∀ g, ok g → x.2 (l' g)) (k : ∀ g, ok g → Dv P ops n dr R0 K E (l' g) pend c) : Dv P ops n dr R0 K E l pend c :=
  .gho ok l' (fun R w _ hs => by obtain ⟨g, hg, hs'⟩ := h R w hs; exact ⟨g, R, hg, Fz.le_refl R, hs'⟩) hq k
theorem gh_of {l' : γ → List As} (h : ∀ R w, St R l w → ∃ g, ok g ∧ St R (l' g) w) : Gh n R0 E l ok (fun _ => E) l' := fun R a w _ ha hs => by
  obtain ⟨g, hg, hs'⟩ := h R w hs
  exact ⟨g, R, hg, Fz.le_refl R, ha, hs'⟩

/-- An empty row is begun. -/
theorem st_nil {α : Type} (Kd : Kd α) (a : Option Addr) : ∀ R w, St R l w → ∃ _ : Unit, True ∧ St R (own Kd (.slice a 0 0) [] :: l) w := fun R w hs => ⟨(), trivial, [], own_nil a, hs⟩
/-- A thing is opened. -/
theorem st_open {γ : Type} {ok : γ → Prop} {f : γ → List As} (j : Nat) (hj : l[j]? = some (exA ok f)) : ∀ R w, St R l w → ∃ g, ok g ∧ St R (f g ++ l.eraseIdx j) w := fun R w hs => by
  obtain ⟨m, ⟨g, hg, hb⟩, hk⟩ := hs.opn hj
  obtain ⟨m2, h2, hw⟩ := Stm.to_bs hk
  exact ⟨g, hg, St.of_bs (Bs.app hb h2) (hw.perm List.perm_append_comm)⟩
/-- A thing is shut. -/
theorem st_shut {γ : Type} (ok : γ → Prop) (f : γ → List As) (g : γ) (hg : ok g) {r : List As} (hp : l.Perm (f g ++ r)) : ∀ R w, St R l w → ∃ _ : Unit, True ∧ St R (exA ok f :: r) w := fun R w hs => by
  obtain ⟨m, hb, hw⟩ := (hs.permL hp).to_bs
  obtain ⟨m1, m2, h1, h2, hq⟩ := hb.split
  exact ⟨(), trivial, m1, ⟨g, hg, h1⟩, Stm.of_bs h2 (hw.perm (hq.trans (by rw [List.append_nil]; exact List.perm_append_comm)))⟩

/-! A row is frozen. -/
def Cv (v : Value) (q p p' : VP) : Prop := ∀ R u, q.p R v → p.p R u → p'.p R u
def CvA (v : Value) (q : VP) (A A' : As) : Prop := ∀ R m, q.p R v → A.p R m → A'.p R m
variable {v : Value} {q : VP}
theorem cv_id {p : VP} : Cv v q p p := fun _ _ _ h => h
theorem cv_eq : Cv v q (eq v) q := fun _ _ h e => by simp only [eq_p] at e; subst e; exact h
theorem cv_all {ps ps' : Cs} (h : All2 (Cv v q) ps ps') {R : Fz} {cs : List Value} (hq : q.p R v) (hc : Cs.h R ps cs) : Cs.h R ps' cs := by
  induction h generalizing cs with
  | nil => cases hc; exact .nil
  | cons h1 _ ih => cases hc with | cons c1 c2 => exact .cons (h1 _ _ hq c1) (ih c2)
theorem cv_agg {ps ps' : Cs} (h : All2 (Cv v q) ps ps') : Cv v q (agg ps) (agg ps') := fun _ _ hq ⟨cs, e, hc⟩ => ⟨cs, e, cv_all h hq hc⟩
theorem cv_tup {ps ps' : Cs} (h : All2 (Cv v q) ps ps') : Cv v q (tup ps) (tup ps') := fun _ _ hq ⟨cs, e, hc⟩ => ⟨cs, e, cv_all h hq hc⟩
theorem cva_id {A : As} : CvA v q A A := fun _ _ _ h => h
theorem cva_blk {b : Nat} {T : TypeId} {ps ps' : Cs} (h : All2 (Cv v q) ps ps') : CvA v q (blk b T ps) (blk b T ps') := fun _ _ hq ⟨cs, e, hc⟩ => ⟨cs, e, cv_all h hq hc⟩
theorem cva_bs {R : Fz} (hq : q.p R v) : ∀ {l l' : List As} {m : Mem}, All2 (CvA v q) l l' → Bs R m l → Bs R m l'
  | [], _, _, .nil, h => h
  | _ :: _, _, _, .cons h1 h2, ⟨m1, m2, k1, k2, hp⟩ => ⟨m1, m2, h1 _ _ hq k1, cva_bs hq h2 k2, hp⟩
def CvE (v : Value) (q : VP) (E E' : Env) : Prop := ∀ t p', find E' t = some p' → ∃ p, find E t = some p ∧ Cv v q p p'
theorem cve_nil : CvE v q E [] := fun _ _ h => by cases h
theorem cve_cons {E' : Env} {t : Nat} {p p' : VP} (h : find E t = some p) (hc : Cv v q p p') (k : CvE v q E E') : CvE v q E ((t, p') :: E') := fun s r hr => by
  simp only [find] at hr
  split at hr
  · rename_i e; have := Nat.eq_of_beq_eq_true e; subst this; cases hr; exact ⟨p, h, hc⟩
  · exact k s r hr
theorem gh_frz {α : Type} {Kd : Kd α} {xs : List α} {E' : Env} {l' : List As} (j : Nat) (hj : l[j]? = some (own Kd v xs)) (hE : CvE v (sl Kd xs) E E') (hl : All2 (CvA v (sl Kd xs)) (l.eraseIdx j) l') :
    Gh n R0 E l (γ := Unit) (fun _ => True) (fun _ => E') (fun _ => l') := fun R a w _ ha hs => by
  obtain ⟨m, hm, hk⟩ := hs.opn hj
  have hq := own_frz hm
  obtain ⟨m2, h2, hw⟩ := (St.freeze hk).to_bs
  exact ⟨(), R.plus m, trivial, R.le_plus m, ⟨ha.1, ha.2.1, fun t p' hp' => by
    obtain ⟨p, h1, h2⟩ := hE t p' hp'
    exact h2 _ _ hq (p.mono (R.le_plus m) (ha.2.2 t p h1))⟩, St.of_bs (cva_bs hq hl h2) hw⟩
end

/-! #### what is lent -/
/-- With B frozen, p' holds of what p holds of. -/
def Lt (B : List As) (p p' : VP) : Prop := ∀ R m u, Bs R m B → p.p R u → p'.p (R.plus m) u
section
variable {B : List As}
theorem lt_id {p : VP} : Lt B p p := fun R m _ _ h => p.mono (R.le_plus m) h
theorem Bs.mem {R : Fz} : ∀ {l : List As} {m : Mem} {A : As}, A ∈ l → Bs R m l → ∃ m1, A.p R m1 ∧ ∀ x ∈ m1, x ∈ m
  | B :: l, m, A, hA, ⟨m1, m2, h1, h2, hp⟩ => by
    rcases List.mem_cons.1 hA with rfl | hA
    · exact ⟨m1, h1, fun x hx => hp.mem_iff.2 (List.mem_append_left _ hx)⟩
    · obtain ⟨m3, h3, k⟩ := Bs.mem hA h2
      exact ⟨m3, h3, fun x hx => hp.mem_iff.2 (List.mem_append_right _ (k x hx))⟩
theorem plus_le {R : Fz} {m m' : Mem} (h : ∀ x ∈ m, x ∈ m') : (R.plus m).le (R.plus m') := ⟨rfl, fun _ _ k => k.imp id (h _)⟩
theorem lt_own {α : Type} {Kd : Kd α} {v : Value} {xs : List α} (h : own Kd v xs ∈ B) : Lt B (eq v) (sl Kd xs) := fun R m u hB e => by
  simp only [eq_p] at e
  subst e
  obtain ⟨m1, h1, k⟩ := Bs.mem h hB
  exact (sl Kd xs).mono (plus_le k) (own_frz h1)
theorem lt_all {R : Fz} {m : Mem} (hB : Bs R m B) {ps ps' : Cs} {cs : List Value} (h : All2 (Lt B) ps ps') (hc : Cs.h R ps cs) : Cs.h (R.plus m) ps' cs := by
  induction h generalizing cs with
  | nil => cases hc; exact .nil
  | cons h1 _ ih => cases hc with | cons c1 c2 => exact .cons (h1 _ _ _ hB c1) (ih c2)
theorem lt_agg {ps ps' : Cs} (h : All2 (Lt B) ps ps') : Lt B (agg ps) (agg ps') := fun _ _ _ hB ⟨cs, e, hc⟩ => ⟨cs, e, lt_all hB h hc⟩
theorem lt_blk {b : Nat} {T : TypeId} {ps ps' : Cs} (hb : blk b T ps ∈ B) (h : All2 (Lt B) ps ps') : Lt B (eq (.pointer (some ⟨b, 0, none⟩))) (rp ps') := fun R m u hB e => by
  simp only [eq_p] at e
  subst e
  obtain ⟨m1, ⟨cs, e, hc⟩, k⟩ := Bs.mem hb hB
  have hl : ps'.length = cs.length := (All2.length (lt_all hB h hc))
  refine ⟨b, 0, T, (0, 0), cs.toArray, rfl, .inr (k _ (by rw [e]; exact List.mem_cons_self ..)), by simp [hl], ?_⟩
  have := lt_all hB h hc
  rw [List.drop_zero, hl, List.take_of_length_le (by simp)]
  exact this

/-- Just this memory. -/
def exact (m : Mem) : As := ⟨fun _ m' => m' = m, fun _ h => h⟩
def Fz.minus (R : Fz) (m : Mem) : Fz := ⟨fun b o => R.mem b o ∧ b ∉ m.map (·.1), R.w0⟩
/-- What is only read may be lent. -/
theorem Tr.lend {P : Program} {f : FuncId} {vs vs' : List VP} {pre : List As} {γ : Type} {ok : γ → Prop} {ret : γ → VP} {post : γ → List As} (B : List As) (h : Tr P f vs pre ok ret post) (hv : All2 (Lt B) vs' vs)
    (hr : ∀ g, Flat (ret g)) (hp : ∀ g, FlatAs (post g)) : Tr P f vs' (B ++ pre) ok ret (fun g => B ++ post g) := fun R F w us hu hs => by
  obtain ⟨m, hb, hw⟩ := hs.to_bs
  obtain ⟨m1, mF, h1, hF, q1⟩ := hb.split
  obtain ⟨mB, mp, hB, hpre, q2⟩ := h1.split
  have hw1 : Base R (mB ++ (mp ++ mF)) w := hw.perm (q1.trans (by rw [← List.append_assoc]; exact q2.append_right _))
  have hc := h (R.plus mB) [exact mF] w us (lt_all hB hv hu) (St.of_bs (m := mp ++ mF) (Bs.app (hpre.mono (R.le_plus mB)) ⟨mF, [], rfl, rfl, by simp⟩) hw1.mono_frz)
  refine hc.mono ?_
  rintro e w' ⟨g, R', v, hg, hR, he, hv, hs'⟩
  obtain ⟨m', hb', hw'⟩ := hs'.to_bs
  obtain ⟨mo, mF', ho, ⟨a1, a2, e1, e2, q4⟩, q3⟩ := hb'.split
  have hmF : mF'.Perm mF := by
    simp only [exact] at e1
    simp only [Bs] at e2
    subst e1 e2
    simpa using q4
  have hw2 : Base R' (mo ++ mF) w' := hw'.perm (q3.trans (hmF.append_left _))
  have hB' : ∀ x ∈ mB, R'.mem x.1 x.2 := fun x hx => hR.2 _ _ (.inr hx)
  have hRR : R.le (R'.minus mB) := ⟨hR.1, fun b o hbo => ⟨hR.2 _ _ (.inl hbo), fun hm => by
    obtain ⟨x, hx, e⟩ := List.mem_map.1 hm
    exact hw1.dis x (List.mem_append_left _ hx) o (by rw [e]; exact hbo)⟩⟩
  have hnd1 : (mB.map (·.1)).Nodup := by have := hw1.nd; rw [List.map_append] at this; exact (List.nodup_append.1 this).1
  have hw3 : Base (R'.minus mB) (mB ++ (mo ++ mF)) w' := by
    refine ⟨hw2.os, hw2.tape, hw2.output, hw2.size, fun b o hbo => hw2.frz b o hbo.1, ?_, fun x hx => ?_, fun x hx o ho => ?_, hw2.drw⟩
    · rw [List.map_append, List.nodup_append]
      refine ⟨hnd1, hw2.nd, fun a ha b hb e => ?_⟩
      obtain ⟨x, hx, rfl⟩ := List.mem_map.1 ha
      obtain ⟨y, hy, rfl⟩ := List.mem_map.1 hb
      exact hw2.dis y hy x.2 (by rw [← e]; exact hB' x hx)
    · rcases List.mem_append.1 hx with hx | hx
      · exact hw2.frz _ _ (hB' x hx)
      · exact hw2.own x hx
    · rcases List.mem_append.1 hx with hx | hx
      · exact ho.2 (List.mem_map.2 ⟨x, hx, rfl⟩)
      · exact hw2.dis x hx o ho.1
  refine ⟨g, R'.minus mB, v, hg, hRR, he, hr g _ _ _ hv, St.of_bs (m := mB ++ (mo ++ mF)) ?_ hw3⟩
  rw [List.append_assoc]
  exact Bs.app (hB.mono hRR) (Bs.app ((hp g).bs ho) (hF.mono hRR))
theorem Pt.lend {P : Program} {f : FuncId} {vs vs' : List VP} {ret : VP} (B : List As) (h : Pt P f vs ret) (hv : All2 (Lt B) vs' vs) (hr : Flat ret) : Tr P f vs' B (γ := Unit) (fun _ => True) (fun _ => ret) (fun _ => B) := by
  have := h.tr.lend B hv (fun _ => hr) (fun _ => flatAs_nil)
  simpa using this
end
end Go.Sp
