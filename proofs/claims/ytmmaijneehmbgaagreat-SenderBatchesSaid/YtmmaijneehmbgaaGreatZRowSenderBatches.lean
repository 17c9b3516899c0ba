import Derived.Test.YtmmaijneehmbgaaGreatZLawSenderBatches
import Derived.Test.YtmmaijneehmbgaaGreatZPureSenderBatches
import Derived.Test.YtmmaijneehmbgaaGreatRows
import Derived.Test.YtmmaijneehmbgaaGreatConR
set_option linter.all false
set_option maxRecDepth 10000
namespace Go.Proofs.YtmmaijneehmbgaaGreat
open Go Go.Sp Go.ChangeShapes Go.WideShapes Go.ChangeAt Go.RowKit
open Go.ChangeMaps (open_string shut_string)
theorem senderBatches_own:ownKnob Tryz.prog.godebug = none:=by kernel_rfl
theorem senderBatches_laid:laidOutB Tryz.prog = true:=by kernel_rfl
set_option maxRecDepth 100000 in
theorem senderBatches_lifted (os:Os) (started:os.Started) (H:Type) (enc:TypeId×Value→H):
  ReturnsInHanded {} Tryz.checked os 5 .any (Rows.senderBatchesSpec.pre6 enc Tryz.prog Tryz.f5 Rows.senderBatchesRow.domain false) (Rows.senderBatchesSpec.post enc Tryz.prog Tryz.f5 false true false false):=by
 refine returnsInHanded_of_change_sized (C:=Tryz.checked) senderBatches_own started (by kernel_rfl) Tryz.func5
  (ChangeSpec.witness6 (enc:=enc) (C:=Tryz.checked) false ⟨#[],#[.int .i64 0],[]⟩ 8 (by kernel_rfl) (by kernel_rfl) (by kernel_rfl) (by kernel_rfl)) ?_
 intro W base args ds gs before hval0 hW hcnd hsz0 _
 have hval:∀ (j:Nat) t v,Tryz.f5.params[j]? = some t→args[j]? = some v→Value.okWide Tryz.prog W .any base t v:=hval0
 have hW':=hW
 obtain ⟨p,q,hA0,hV,rfl,hfz,hnd⟩:=hW
 have hA:DataW.TrodAll enc Tryz.prog W 0 (fun _=>true) true Tryz.f5.params.toList args.toList ds p:=hA0
 rw [Tryz.params5] at hA hval
 obtain ⟨v0,vs0,d0,ds0,p0,q0,hargs,rfl,rfl,h0,r0⟩:=trodAll_cons hA
 obtain ⟨rfl,rfl,rfl⟩:=trodAll_nil r0
 obtain rfl:args = #[v0]:=by cases args; simp_all
 obtain ⟨rfl,rfl⟩:=trodVars_none hV
 have z0:=h0
 have lt0:∀ x∈p0,x.block < W.heap.size:=by obtain ⟨m,hm⟩:=z0; exact DataW.trod_lt m _ _ _ hm
 obtain ⟨a0,rfl,e0,rfl,k0⟩:=open_int Tryz.underlying3 (hval 0 3 v0 rfl rfl) h0
 obtain ⟨k,hk⟩:=SenderBatches_pure a0 k0
 refine (law_walk (w18_SenderBatches.c hk) (us:=[_]) (.cons rfl .nil)).mono fun e W' ⟨he,bel⟩=>?_
 subst he
 exact ⟨_,rfl,_,_,_,[],_,[],hW',trodAll_mk1 (shut_bool Tryz.underlying4 _),(trodAll_cons_mk (Below.trod senderBatches_laid (by kernel_rfl) (of_decide_eq_true (by kernel_rfl)) z0 bel lt0) trodAll_mk0),rfl,bel.frame _,fun h=>by cases h⟩
theorem senderBatches_holds:Rows.SenderBatchesSaid:=
 OpenClaim.holds_of_wide 5 Tryz.f5 rfl rfl rfl rfl rfl rfl rfl ⟨rfl,rfl,rfl,rfl,rfl⟩ rfl rfl rfl rfl rfl (by kernel_rfl) Tryz.func5 (by kernel_rfl)
  (of_decide_eq_true (by kernel_rfl)) (by unfold Func.isWrapper; first | (rw [if_pos (by decide +kernel)]; kernel_rfl) | (rw [if_neg (by decide +kernel)]; exact ⟨rfl,rfl⟩))
  (fun os started H enc _=>senderBatches_lifted os started H enc)
#print axioms senderBatches_holds
end Go.Proofs.YtmmaijneehmbgaaGreat
