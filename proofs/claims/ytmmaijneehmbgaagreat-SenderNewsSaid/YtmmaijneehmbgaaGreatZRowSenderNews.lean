import Derived.Test.YtmmaijneehmbgaaGreatZLawSenderNews
import Derived.Test.YtmmaijneehmbgaaGreatZPureSenderNews
import Derived.Test.YtmmaijneehmbgaaGreatRows
import Derived.Test.YtmmaijneehmbgaaGreatConR
set_option linter.all false
set_option maxRecDepth 10000
namespace Go.Proofs.YtmmaijneehmbgaaGreat
open Go Go.Sp Go.ChangeShapes Go.WideShapes Go.ChangeAt Go.RowKit
open Go.ChangeMaps (open_string shut_string)
theorem senderNews_own:ownKnob Tryz.prog.godebug = none:=by kernel_rfl
theorem senderNews_laid:laidOutB Tryz.prog = true:=by kernel_rfl
set_option maxRecDepth 100000 in
theorem senderNews_lifted (os:Os) (started:os.Started) (H:Type) (enc:TypeId×Value→H):
  ReturnsInHanded {} Tryz.checked os 4 .any (Rows.senderNewsSpec.pre6 enc Tryz.prog Tryz.f4 Rows.senderNewsRow.domain false) (Rows.senderNewsSpec.post enc Tryz.prog Tryz.f4 false true false false):=by
 refine returnsInHanded_of_change_sized (C:=Tryz.checked) senderNews_own started (by kernel_rfl) Tryz.func4
  (ChangeSpec.witness6 (enc:=enc) (C:=Tryz.checked) false ⟨#[],#[.string ⟨#[]⟩,.string ⟨#[]⟩,.int .i64 0,.int .i64 0],[]⟩ 8 (by kernel_rfl) (by kernel_rfl) (by kernel_rfl) (by kernel_rfl)) ?_
 intro W base args ds gs before hval0 hW hcnd hsz0 _
 have hval:∀ (j:Nat) t v,Tryz.f4.params[j]? = some t→args[j]? = some v→Value.okWide Tryz.prog W .any base t v:=hval0
 have hW':=hW
 obtain ⟨p,q,hA0,hV,rfl,hfz,hnd⟩:=hW
 have hA:DataW.TrodAll enc Tryz.prog W 0 (fun _=>true) true Tryz.f4.params.toList args.toList ds p:=hA0
 rw [Tryz.params4] at hA hval
 obtain ⟨v0,vs0,d0,ds0,p0,q0,hargs,rfl,rfl,h0,r0⟩:=trodAll_cons hA
 obtain ⟨v1,vs1,d1,ds1,p1,q1,rfl,rfl,rfl,h1,r1⟩:=trodAll_cons r0
 obtain ⟨v2,vs2,d2,ds2,p2,q2,rfl,rfl,rfl,h2,r2⟩:=trodAll_cons r1
 obtain ⟨v3,vs3,d3,ds3,p3,q3,rfl,rfl,rfl,h3,r3⟩:=trodAll_cons r2
 obtain ⟨rfl,rfl,rfl⟩:=trodAll_nil r3
 obtain rfl:args = #[v0,v1,v2,v3]:=by cases args; simp_all
 obtain ⟨rfl,rfl⟩:=trodVars_none hV
 have z0:=h0
 have lt0:∀ x∈p0,x.block < W.heap.size:=by obtain ⟨m,hm⟩:=z0; exact DataW.trod_lt m _ _ _ hm
 obtain ⟨a0,rfl,e0,rfl,k0⟩:=open_string Tryz.underlying9 (hval 0 9 v0 rfl rfl) h0
 have z1:=h1
 have lt1:∀ x∈p1,x.block < W.heap.size:=by obtain ⟨m,hm⟩:=z1; exact DataW.trod_lt m _ _ _ hm
 obtain ⟨a1,rfl,e1,rfl,k1⟩:=open_string Tryz.underlying9 (hval 1 9 v1 rfl rfl) h1
 have z2:=h2
 have lt2:∀ x∈p2,x.block < W.heap.size:=by obtain ⟨m,hm⟩:=z2; exact DataW.trod_lt m _ _ _ hm
 obtain ⟨a2,rfl,e2,rfl,k2⟩:=open_int Tryz.underlying3 (hval 2 3 v2 rfl rfl) h2
 have z3:=h3
 have lt3:∀ x∈p3,x.block < W.heap.size:=by obtain ⟨m,hm⟩:=z3; exact DataW.trod_lt m _ _ _ hm
 obtain ⟨a3,rfl,e3,rfl,k3⟩:=open_int Tryz.underlying3 (hval 3 3 v3 rfl rfl) h3
 obtain ⟨k,hk⟩:=SenderNews_pure a0 a1 a2 a3 k0 k1 k2 k3
 refine (law_walk (w18_SenderNews.c hk) (us:=[_,_,_,_]) (.cons rfl (.cons rfl (.cons rfl (.cons rfl .nil))))).mono fun e W' ⟨he,bel⟩=>?_
 subst he
 exact ⟨_,rfl,_,_,_,[],_,[],hW',trodAll_mk1 (shut_bool Tryz.underlying4 _),(trodAll_cons_mk (Below.trod senderNews_laid (by kernel_rfl) (of_decide_eq_true (by kernel_rfl)) z0 bel lt0) (trodAll_cons_mk (Below.trod senderNews_laid (by kernel_rfl) (of_decide_eq_true (by kernel_rfl)) z1 bel lt1) (trodAll_cons_mk (Below.trod senderNews_laid (by kernel_rfl) (of_decide_eq_true (by kernel_rfl)) z2 bel lt2) (trodAll_cons_mk (Below.trod senderNews_laid (by kernel_rfl) (of_decide_eq_true (by kernel_rfl)) z3 bel lt3) trodAll_mk0)))),rfl,bel.frame _,fun h=>by cases h⟩
theorem senderNews_holds:Rows.SenderNewsSaid:=
 OpenClaim.holds_of_wide 4 Tryz.f4 rfl rfl rfl rfl rfl rfl rfl ⟨rfl,rfl,rfl,rfl,rfl⟩ rfl rfl rfl rfl rfl (by kernel_rfl) Tryz.func4 (by kernel_rfl)
  (of_decide_eq_true (by kernel_rfl)) (by unfold Func.isWrapper; first | (rw [if_pos (by decide +kernel)]; kernel_rfl) | (rw [if_neg (by decide +kernel)]; exact ⟨rfl,rfl⟩))
  (fun os started H enc _=>senderNews_lifted os started H enc)
#print axioms senderNews_holds
end Go.Proofs.YtmmaijneehmbgaaGreat
