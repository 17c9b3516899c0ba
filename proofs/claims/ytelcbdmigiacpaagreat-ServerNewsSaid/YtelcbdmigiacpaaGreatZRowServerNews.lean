/- ServerNews, for every input. No condition. -/
import Derived.Test.YtelcbdmigiacpaaGreatZLawServerNews
import Derived.Test.YtelcbdmigiacpaaGreatZPureServerNews
import Derived.Test.YtelcbdmigiacpaaGreatRows
set_option linter.all false
set_option maxRecDepth 10000
namespace Go.Proofs.YtelcbdmigiacpaaGreat
open Go Go.Sp Go.ChangeShapes Go.WideShapes Go.ChangeAt Go.RowKit
open Go.ChangeMaps (open_string shut_string)
theorem serverNews_own:ownKnob Tryz.prog.godebug = none:=by kernel_rfl
theorem serverNews_laid:laidOutB Tryz.prog = true:=by kernel_rfl
set_option maxRecDepth 100000 in
theorem serverNews_lifted (os:Os) (started:os.Started) (H:Type) (enc:TypeId×Value→H):
  ReturnsInHanded {} Tryz.checked os 3 .any (Rows.serverNewsSpec.pre6 enc Tryz.prog Tryz.f3 Rows.serverNewsRow.domain false) (Rows.serverNewsSpec.post enc Tryz.prog Tryz.f3 false true false false):=by
 refine returnsInHanded_of_change_sized (C:=Tryz.checked) serverNews_own started (by kernel_rfl) Tryz.func3
  (ChangeSpec.witness6 (enc:=enc) (C:=Tryz.checked) false ⟨#[],#[.string ⟨#[]⟩,.int .i64 0,.int .i64 0],[]⟩ 8 (by kernel_rfl) (by kernel_rfl) (by kernel_rfl) (by kernel_rfl)) ?_
 intro W base args ds gs before hval0 hW hcnd hsz0 _
 have hval:∀ (j:Nat) t v,Tryz.f3.params[j]? = some t→args[j]? = some v→Value.okWide Tryz.prog W .any base t v:=hval0
 have hW':=hW
 obtain ⟨p,q,hA0,hV,rfl,hfz,hnd⟩:=hW
 have hA:DataW.TrodAll enc Tryz.prog W 0 (fun _=>true) true Tryz.f3.params.toList args.toList ds p:=hA0
 rw [Tryz.params3] at hA hval
 obtain ⟨v0,vs0,d0,ds0,p0,q0,hargs,rfl,rfl,h0,r0⟩:=trodAll_cons hA
 obtain ⟨v1,vs1,d1,ds1,p1,q1,rfl,rfl,rfl,h1,r1⟩:=trodAll_cons r0
 obtain ⟨v2,vs2,d2,ds2,p2,q2,rfl,rfl,rfl,h2,r2⟩:=trodAll_cons r1
 obtain ⟨rfl,rfl,rfl⟩:=trodAll_nil r2
 obtain rfl:args = #[v0,v1,v2]:=by cases args; simp_all
 obtain ⟨rfl,rfl⟩:=trodVars_none hV
 have z0:=h0
 have lt0:∀ x∈p0,x.block < W.heap.size:=by obtain ⟨m,hm⟩:=z0; exact DataW.trod_lt m _ _ _ hm
 obtain ⟨a0,rfl,e0,rfl,k0⟩:=open_string Tryz.underlying9 (hval 0 9 v0 rfl rfl) h0
 have z1:=h1
 have lt1:∀ x∈p1,x.block < W.heap.size:=by obtain ⟨m,hm⟩:=z1; exact DataW.trod_lt m _ _ _ hm
 obtain ⟨a1,rfl,e1,rfl,k1⟩:=open_int Tryz.underlying3 (hval 1 3 v1 rfl rfl) h1
 have z2:=h2
 have lt2:∀ x∈p2,x.block < W.heap.size:=by obtain ⟨m,hm⟩:=z2; exact DataW.trod_lt m _ _ _ hm
 obtain ⟨a2,rfl,e2,rfl,k2⟩:=open_int Tryz.underlying3 (hval 2 3 v2 rfl rfl) h2
 obtain ⟨k,hk⟩:=ServerNews_pure a0 a1 a2 k0 k1 k2
 refine (law_walk0 (mms_cons mm_eq (mms_cons mm_eq (mms_cons mm_eq mms_nil))) (w22_ServerNews.c hk) (us:=[_,_,_]) (.cons rfl (.cons rfl (.cons rfl .nil)))).mono fun e W' ⟨he,bel⟩=>?_
 subst he
 exact ⟨_,rfl,_,_,_,[],_,[],hW',trodAll_mk1 (shut_bool Tryz.underlying4 _),(trodAll_cons_mk (Below.trod serverNews_laid (by kernel_rfl) (of_decide_eq_true (by kernel_rfl)) z0 bel lt0) (trodAll_cons_mk (Below.trod serverNews_laid (by kernel_rfl) (of_decide_eq_true (by kernel_rfl)) z1 bel lt1) (trodAll_cons_mk (Below.trod serverNews_laid (by kernel_rfl) (of_decide_eq_true (by kernel_rfl)) z2 bel lt2) trodAll_mk0))),rfl,bel.frame _,fun h=>by cases h⟩
theorem serverNews_holds:Rows.ServerNewsSaid:=
 OpenClaim.holds_of_wide 3 Tryz.f3 rfl rfl rfl rfl rfl rfl rfl ⟨rfl,rfl,rfl,rfl,rfl⟩ rfl rfl rfl rfl rfl (by kernel_rfl) Tryz.func3 (by kernel_rfl)
  (of_decide_eq_true (by kernel_rfl)) (by unfold Func.isWrapper; first | (rw [if_pos (by decide +kernel)]; kernel_rfl) | (rw [if_neg (by decide +kernel)]; exact ⟨rfl,rfl⟩))
  (fun os started H enc _=>serverNews_lifted os started H enc)
#print axioms serverNews_holds
end Go.Proofs.YtelcbdmigiacpaaGreat
