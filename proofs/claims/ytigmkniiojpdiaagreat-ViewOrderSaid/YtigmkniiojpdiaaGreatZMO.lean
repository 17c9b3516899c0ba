/- Plain: the same events, in another row: the same dag. -/
import Derived.Test.YtigmkniiojpdiaaGreatZMJ
set_option linter.all false
set_option maxRecDepth 10000
namespace Go.Proofs.YtigmkniiojpdiaaGreat
open Go Go.Sp
theorem good_nodup {L : List Event} (h : Good L) : L.Nodup := List.Pairwise.of_map _ (fun a b h e => h (congrArg _ e)) h.uq
theorem good_same {L : List Event} (h : Good L) {a b : Event} (ha : a ∈ L) (hb : b ∈ L) (e : a.fID = b.fID) : a = b := by
  obtain ⟨i, hi, rfl⟩ := mem_ev ha
  obtain ⟨j, hj, rfl⟩ := mem_ev hb
  have h1 := ix_of h hi
  rw [e, ix_of h hj] at h1
  have : j = i := by omega
  rw [this]
theorem len_sub {α : Type} : ∀ {l S : List α}, l.Nodup → (∀ x ∈ l, x ∈ S) → l.length ≤ S.length
  | [], _, _, _ => Nat.zero_le _
  | a :: l, S, hn, hs => by
    rw [List.nodup_cons] at hn
    obtain ⟨A, B, e⟩ := List.append_of_mem (hs a (List.mem_cons_self ..))
    have := len_sub (l := l) (S := A ++ B) hn.2 fun x hx => by
      have h1 := hs x (List.mem_cons_of_mem _ hx)
      rw [e] at h1
      rcases List.mem_append.1 h1 with h2 | h2
      · exact List.mem_append.2 (.inl h2)
      · rcases List.mem_cons.1 h2 with h3 | h3
        · exact absurd (h3 ▸ hx) hn.1
        · exact List.mem_append.2 (.inr h3)
    rw [e]
    simp only [List.length_append, List.length_cons] at this ⊢
    omega
theorem dpt_same {L L' : List Event} (h : Good L) (h' : Good L') (hm : ∀ e, e ∈ L' ↔ e ∈ L) (id : ByteArray) : dpt (tb L') id = dpt (tb L) id := by
  have key : ∀ i, i < L'.length → dpt (tb L') (ev L' i).fID = dpt (tb L) (ev L' i).fID := by
    intro i
    induction i using Nat.strongRecOn with
    | _ i ih =>
      intro hi
      obtain ⟨j, hj, he⟩ := mem_ev ((hm _).1 (ev_mem hi))
      have h2 := dep_rec h hj
      rw [he] at h2
      rw [dep_rec h' hi, h2]
      refine dOf_congr _ _ fun p hp => ?_
      obtain ⟨q, hq, rfl⟩ := h'.cl i hi p hp
      exact ih q hq (by omega)
  by_cases hid : ∃ e ∈ L', e.fID = id
  · obtain ⟨e, he, rfl⟩ := hid
    obtain ⟨i, hi, rfl⟩ := mem_ev he
    exact key i hi
  · have n1 : ix L' id = -1 := by
      rcases ix_rng L' id with ⟨q, _⟩ | ⟨j, q, hj, he⟩
      · exact q
      · exact absurd ⟨_, ev_mem hj, he⟩ hid
    have n2 : ix L id = -1 := by
      rcases ix_rng L id with ⟨q, _⟩ | ⟨j, q, hj, he⟩
      · exact q
      · exact absurd ⟨_, (hm _).2 (ev_mem hj), he⟩ hid
    rw [dpt_none n1, dpt_none n2]
theorem allE_same {L L' : List Event} (h : Good L) (h' : Good L') (hm : ∀ e, e ∈ L' ↔ e ∈ L) : allE (tb L') = allE (tb L) := by
  have hp : L'.Perm L := (List.perm_ext_iff_of_nodup (good_nodup h') (good_nodup h)).2 hm
  have hlt : lt (tb L') = lt (tb L) := by
    funext a b
    unfold lt pos
    rw [dpt_same h h' hm, dpt_same h h' hm]
  have h1 := all_srt h'
  rw [hlt] at h1
  exact perm_unique (fun x y k q => (lt_irr (lt_tr k q)).elim) ((all_perm h').trans (hp.trans (all_perm h).symm)) h1 (all_srt h)
/-- Events of which those that they hang on are there may be added, or are there. -/
theorem code_in {room : ByteArray} {L L' : List Event} (hc : Chain room L) (hg' : Good L') (hs : ∀ e ∈ L', e ∈ L) {i : Nat} (hi : i < L.length) (hp : ∀ j, j < i → ev L j ∈ L') : code ⟨room, L'⟩ (ev L i) = 0 ∨ code ⟨room, L'⟩ (ev L i) = 9 := by
  have h := (hc i hi).2.2
  have hg := chain_good hc
  have e : ∀ j, j < i → ev (L.take i) j = ev L j := fun j hj => by
    unfold ev; rw [List.getD_eq_getElem?_getD, List.getD_eq_getElem?_getD, List.getElem?_take, if_pos hj]
  have hl : (L.take i).length = i := by rw [List.length_take]; omega
  -- what stands ahead in L stands in L'
  have look : ∀ id, 0 ≤ ix (L.take i) id → 0 ≤ ix L' id ∧ ev L' (ix L' id).toNat = ev (L.take i) (ix (L.take i) id).toNat := fun id h0 => by
    rcases ix_rng (L.take i) id with ⟨q, _⟩ | ⟨j, q, hj, he⟩
    · omega
    · rw [hl] at hj
      rw [e j hj] at he
      have hin := hp j hj
      obtain ⟨k, hk, hke⟩ := mem_ev hin
      have h2 := ix_of hg' hk
      rw [hke, he] at h2
      rw [h2, q, Int.toNat_natCast, Int.toNat_natCast, hke, e j hj]
      exact ⟨by omega, rfl⟩
  unfold code at h ⊢
  split at h
  · cases h
  · rename_i c1
    rw [if_neg c1]
    split at h
    · cases h
    · rename_i c2
      rw [if_neg c2]
      split at h
      · cases h
      · split at h
        · cases h
        · rename_i c4
          by_cases c3 : 0 ≤ ix (⟨room, L'⟩ : RDag).fL (ev L i).fID
          · rw [if_pos c3]; exact .inr rfl
          · rw [if_neg c3]
            have ha : allp (fun x => decide (0 ≤ ix L' (par (ev L i) x))) 0 (ev L i).fParents.length = true := by
              rw [allp_iff]
              intro x h1 h2
              have ha2 : allp (fun x => decide (0 ≤ ix (L.take i) (par (ev L i) x))) 0 (ev L i).fParents.length = true := by
                cases hh : allp (fun x => decide (0 ≤ ix (L.take i) (par (ev L i) x))) 0 (ev L i).fParents.length with
                | true => rfl
                | false => exact absurd hh c4
              have h3 := allp_iff.1 ha2 x h1 h2
              exact decide_eq_true (look _ (of_decide_eq_true h3)).1
            have ha' : ¬ (allp (fun x => decide (0 ≤ ix (⟨room, L'⟩ : RDag).fL (par (ev L i) x))) 0 (ev L i).fParents.length = false) := by
              show ¬ (allp (fun x => decide (0 ≤ ix L' (par (ev L i) x))) 0 (ev L i).fParents.length = false)
              rw [ha]; exact fun h => by cases h
            rw [if_neg ha']
            left
            split at h
            · rename_i c5; rw [if_pos c5]
            · rename_i c5
              rw [if_neg c5]
              split at h
              · cases h
              · rename_i c6
                have hlk := look (ev L i).fThread (by show 0 ≤ ix (L.take i) _; exact Int.not_lt.1 c6)
                rw [if_neg (show ¬ ix (⟨room, L'⟩ : RDag).fL (ev L i).fThread < 0 from Int.not_lt.2 hlk.1)]
                have h7 : ev (⟨room, L'⟩ : RDag).fL (ix (⟨room, L'⟩ : RDag).fL (ev L i).fThread).toNat = ev (⟨room, L.take i⟩ : RDag).fL (ix (⟨room, L.take i⟩ : RDag).fL (ev L i).fThread).toNat := hlk.2
                rw [h7]
                exact h
/-- A dag of some of the events. -/
structure Sub (room : ByteArray) (L : List Event) (m : DDag) (L' : List Event) : Prop where
  ch : Chain room L'
  rel : Rel m ⟨room, L'⟩
  tab : T m = tb L'
  sub : ∀ e ∈ L', e ∈ L
theorem sub_len {room : ByteArray} {L L' : List Event} {m : DDag} (h : Sub room L m L') : L'.length ≤ L.length := len_sub (good_nodup (chain_good h.ch)) h.sub
/-- One of the events comes, perhaps again. -/
theorem sub_add {room : ByteArray} {L L' : List Event} {m : DDag} (hc : Chain room L) (hl : L.length ≤ 1000) (h : Sub room L m L') {i : Nat} (hi : i < L.length) :
    ∃ m' L'', Ev (fun k => dag_Dag_Add.f k m (ev L i)) (code ⟨room, L'⟩ (ev L i), m') ∧ Sub room L m' L'' ∧ (∀ e ∈ L', e ∈ L'') ∧ ((∀ j, j < i → ev L j ∈ L') → ev L i ∈ L'') := by
  have hsl := sub_len h
  obtain ⟨h1, h2, _⟩ := hc i hi
  obtain ⟨m', a1, a2, a3⟩ := dagAdd2 h.rel h1 (low_tb h.tab (by omega))
  by_cases h0 : code ⟨room, L'⟩ (ev L i) = 0
  · obtain ⟨b1, b2, _⟩ := a3 h0
    refine ⟨m', L' ++ [ev L i], a1, ⟨chain_app h.ch h1 h2 h0, b1, by rw [b2, h.tab, tb_app], fun e he => ?_⟩, fun e he => List.mem_append.2 (.inl he), fun _ => by simp⟩
    rcases List.mem_append.1 he with k | k
    · exact h.sub e k
    · rw [List.mem_singleton.1 k]; exact ev_mem hi
  · refine ⟨m', L', a1, by rw [a2 h0]; exact h, fun e he => he, fun hp => ?_⟩
    rcases code_in hc (chain_good h.ch) h.sub hi hp with k | k
    · exact absurd k h0
    · have h9 : 0 ≤ ix L' (ev L i).fID := by
        unfold code at k
        split at k
        · cases k
        · split at k
          · cases k
          · split at k
            · assumption
            · split at k
              · cases k
              · split at k
                · cases k
                · split at k
                  · cases k
                  · split at k
                    · cases k
                    · split at k <;> cases k
      rcases ix_rng L' (ev L i).fID with ⟨q, _⟩ | ⟨j, q, hj, he⟩
      · omega
      · have := good_same (chain_good hc) (h.sub _ (ev_mem hj)) (ev_mem hi) he
        rw [← this]; exact ev_mem hj
end Go.Proofs.YtigmkniiojpdiaaGreat
