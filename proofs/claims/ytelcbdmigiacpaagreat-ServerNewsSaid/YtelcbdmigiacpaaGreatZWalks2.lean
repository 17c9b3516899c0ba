import Derived.Test.YtelcbdmigiacpaaGreatZWalks1
set_option linter.all false
set_option maxRecDepth 10000
set_option maxHeartbeats 20000000
namespace Go.Proofs.YtelcbdmigiacpaaGreat
open Go Go.Sp
theorem server_Server_note.c {k:Nat} {a0:SSelTicStaAllComSen} {a1:ByteArray} {p0_:OV} {r:SSelTicStaAllComSen} (h:server_Server_note.f k a0 a1 = some r):Tr Tryz.prog 65 [eq p0_.1,vS a1] [SSelTicStaAllComSen.O p0_ a0] (γ:=Unit) (fun _=>True) (fun g=>tup []) (fun g=>[SSelTicStaAllComSen.O p0_ r]):=by
 unfold server_Server_note.f at h
 refine tb Tryz.func65 Tryz.ntmps65 h fun R0 F H=>?_
 refine rg 7 64<|mv0 rfl rfl<|Dv.nilA SSelTicStaAllComSen.nn rfl trivial rfl (mem_at 0 rfl)<|vg (SSelTicStaAllComSen.opn 0 rfl) fun g730 h731=>?_
 refine fp h731 rfl trivial rfl fa102_3<|fb rfl trivial rfl fa99_4<|ld 0 rfl trivial rfl sc85 rfl rfl<|mv0 rfl rfl<|el H fun t732 h733 H=>cx 10 [7,0,1,2,3,4,5,6,8,9] cal99 (delta_Log_Touch.c h733 (p0_:=g730.2.2.2.2.2.2.2.1)) nofun fun _ _=>?_
 refine .fin<|ng (SSelTicStaAllComSen.shut (p:=p0_) (m:=(⟨a0.fself,a0.ftick,a0.fstamps,(⟨a0.fall.fView,a0.fall.fMarks,a0.fall.fTyping,a0.fall.fPresence,t732.2.2⟩:Src),a0.fcome,a0.fsenders⟩:SSelTicStaAllComSen)) (g730.1,g730.2.1,g730.2.2.1,g730.2.2.2.1,g730.2.2.2.2.1,g730.2.2.2.2.2.1,g730.2.2.2.2.2.2.1,g730.2.2.2.2.2.2.2.1,g730.2.2.2.2.2.2.2.2.1,g730.2.2.2.2.2.2.2.2.2) h731 (pm 10 [1,2,3,4,5,6,7,0,8,9])) fun _ _=>?_
 obtain rfl:=Gets.out H
 exact re rfl () 1 [0] 0 .nil
theorem strings_Join.c {xs:List ByteArray} {sep r:ByteArray} (h:strings_Join.f xs sep = some r):Tr Tryz.prog 100 [sl strK xs,vS sep] [lax] (γ:=Unit) (fun _=>True) (fun _=>vS r) (fun _=>[lax]):=Tr.of_belowL fun R F w us hu hs=>by
  obtain ⟨⟨h1,h2⟩,H⟩:=Gets.grd (Gets.of h)
  obtain rfl:=Gets.out H
  cases hu with
  | cons ha hu=>cases hu with
    | cons hb hu=>
      cases hu
      simp only [eq_p] at hb
      subst hb
      rcases strs_cells ha hs with ⟨a,c,rfl,rfl⟩ | ⟨b,off,c,rfl,hl,hlt,hc⟩
      · exact ⟨_,rfl,(Tryz.strings_Join_none a c sep w).mono fun e w' ⟨he,hw⟩=>⟨he,hw ▸ Go.RowKit.Below.refl _ _⟩⟩
      · exact ⟨_,rfl,Tryz.strings_Join b off c xs sep w hc hlt h1 hl h2⟩
theorem sync_MarkKey.c {a0:RKey} {r:ByteArray} (h:sync_MarkKey.f a0 = some r):Tr Tryz.prog 66 [agg (RKey.enc a0)] [lax] (γ:=Unit) (fun _=>True) (fun g=>vS r) (fun g=>[lax]):=by
 unfold sync_MarkKey.f at h
 refine tb Tryz.func66 Tryz.ntmps66 h fun R0 F H=>?_
 refine WP.seq<|rg 2 1<|Dv.box rfl trivial rfl cA nofun fun b734=>as0 rfl rfl<|.fin<|WP.seq<|rg 1 0<|as0 rfl rfl<|.fin<|WP.seq<|WP.seq<|rg 2 0<|fb rfl trivial rfl fa47_3<|ld 0 rfl trivial rfl sc4 rfl rfl<|.fin<|cd H rfl (fun _ H=>?_) (fun _ H=>?_)
 rotate_left
 ·
  refine WP.skip<|WP.seq<|rg 10 0<|fb rfl trivial rfl fa47_0<|ld 0 rfl trivial rfl sc9 rfl rfl<|fb rfl trivial rfl fa47_1<|ld 0 rfl trivial rfl sc9 rfl rfl<|fb rfl trivial rfl fa47_2<|ld 0 rfl trivial rfl sc9 rfl rfl<|mv0 rfl rfl<|Dv.lit strK ([(⟨#[109]⟩:ByteArray),a0.fRoom,a0.fUser,a0.fThread,(⟨#[48]⟩:ByteArray)]:List ByteArray) (css:=[[vS (⟨#[109]⟩:ByteArray)],[vS a0.fRoom],[vS a0.fUser],[vS a0.fThread],[vS (⟨#[48]⟩:ByteArray)]]) rfl trivial Tryz.underlying23 Tryz.underlying9 c9 z9 rfl (by decide) (by decide) rfl ⟨(cells_one (one_eq rfl)),⟨(cells_one (one_eq rfl)),⟨(cells_one (one_eq rfl)),⟨(cells_one (one_eq rfl)),⟨(cells_one (one_eq rfl)),trivial⟩⟩⟩⟩⟩ rfl rfl rfl<|el H fun t738 h739 H=>cll 2 [1,0] cal100 (strings_Join.c h739) ?_
  refine as0 rfl rfl<|.fin ?_
  cases H.out; exact rt i2 rfl () 2 [0,1] 1 (.cons (res_tmp rfl) .nil)
 refine rg 1 0<|as0 rfl rfl<|.fin<|WP.seq<|rg 10 0<|fb rfl trivial rfl fa47_0<|ld 0 rfl trivial rfl sc9 rfl rfl<|fb rfl trivial rfl fa47_1<|ld 0 rfl trivial rfl sc9 rfl rfl<|fb rfl trivial rfl fa47_2<|ld 0 rfl trivial rfl sc9 rfl rfl<|mv0 rfl rfl<|Dv.lit strK ([(⟨#[109]⟩:ByteArray),a0.fRoom,a0.fUser,a0.fThread,(⟨#[49]⟩:ByteArray)]:List ByteArray) (css:=[[vS (⟨#[109]⟩:ByteArray)],[vS a0.fRoom],[vS a0.fUser],[vS a0.fThread],[vS (⟨#[49]⟩:ByteArray)]]) rfl trivial Tryz.underlying23 Tryz.underlying9 c9 z9 rfl (by decide) (by decide) rfl ⟨(cells_one (one_eq rfl)),⟨(cells_one (one_eq rfl)),⟨(cells_one (one_eq rfl)),⟨(cells_one (one_eq rfl)),⟨(cells_one (one_eq rfl)),trivial⟩⟩⟩⟩⟩ rfl rfl rfl<|el H fun t736 h737 H=>cll 2 [1,0] cal100 (strings_Join.c h737) ?_
 refine as0 rfl rfl<|.fin ?_
 cases H.out; exact rt i2 rfl () 2 [0,1] 1 (.cons (res_tmp rfl) .nil)
theorem server_Server_Event.c {k:Nat} {a0:SSelTicStaAllComSen} {a1:Event} {p0_:OV} {r:Int×SSelTicStaAllComSen} (h:server_Server_Event.f k a0 a1 = some r):Tr Tryz.prog 38 [eq p0_.1,agg (Event.enc a1)] [lax,SSelTicStaAllComSen.O p0_ a0] (γ:=Unit) (fun _=>True) (fun g=>vI r.1) (fun g=>[lax,SSelTicStaAllComSen.O p0_ r.2]):=by
 unfold server_Server_Event.f at h
 refine tb Tryz.func38 Tryz.ntmps38 h fun R0 F H=>?_
 refine WP.seq<|rg 2 1<|Dv.box rfl trivial rfl cA nofun fun b740=>as0 rfl rfl<|.fin<|WP.seq<|WP.seq<|wg (SSelTicStaAllComSen.opn 2 rfl) fun g741 h742=>?_
 refine dg Tryz.checked.mixed 8 64<|mv0 rfl rfl<|Dv.nilpp h742 rfl trivial rfl<|fp h742 rfl trivial rfl fa102_3<|fb rfl trivial rfl fa99_0<|ld 0 rfl trivial rfl sc33 rfl rfl<|lds 10 rfl trivial rfl sg107 rfl rfl<|el H fun t743 h744 H=>cx 12 [3,0,1,2,4,5,6,7,8,9,10,11] cal63 (view_View_Add.c h744 (p0_:=g741.2.2.2.1)) pC fun _ _=>?_
 refine as0 rfl rfl<|.fin<|WP.seq<|rg 2 0<|mv0 rfl rfl<|bn0 rfl rfl rfl run_ne<|.fin<|cd H rfl (fun _ H=>?_) (fun _ H=>?_)
 ·
  refine WP.seq<|rg 2 0<|mv0 rfl rfl<|as0 rfl rfl<|.fin<|wg (SSelTicStaAllComSen.shut (p:=p0_) (m:=(⟨a0.fself,a0.ftick,a0.fstamps,(⟨t743.2,a0.fall.fMarks,a0.fall.fTyping,a0.fall.fPresence,a0.fall.fLog⟩:Src),a0.fcome,a0.fsenders⟩:SSelTicStaAllComSen)) (g741.1,g741.2.1,g741.2.2.1,g741.2.2.2.1,g741.2.2.2.2.1,g741.2.2.2.2.2.1,g741.2.2.2.2.2.2.1,g741.2.2.2.2.2.2.2.1,g741.2.2.2.2.2.2.2.2.1,g741.2.2.2.2.2.2.2.2.2) h742 (pm 12 [1,2,3,0,4,5,6,7,8,9,10,11])) fun _ _=>?_
  cases H.out; exact rt i2 rfl () 3 [1,2,0] 1 (.cons (res_tmp rfl) .nil)
 refine WP.skip<|WP.seqn H (fun q763:(Int×Int×Bool×SSelTicStaAllComSen×(List RKey))×OV=>q763.1) (fun q763:(Int×Int×Bool×SSelTicStaAllComSen×(List RKey))×OV=>[]) (fun q763:(Int×Int×Bool×SSelTicStaAllComSen×(List RKey))×OV=>[blk b740 107 (Event.enc a1),SSelTicStaAllComSen.O p0_ q763.1.2.2.2.1,lax,own RKey.K q763.2.1 q763.1.2.2.2.2]++F) (fun q763 H=>?_) (fun H=>?_)
 ·
  obtain ⟨p746,v747⟩:=q763
  refine WP.seq<|rg 1 0<|as0 rfl rfl<|.fin ?_
  cases H.out; exact rt i2 rfl () 4 [0,3,2,1] 2 (.cons (res_tmp rfl) .nil)
 refine WP.seq<|dgo Tryz.checked.mixed [0,1,2,3,4,5,6,7,8,9,10,11,12,13,16,14,15] [14]<|mv0 rfl rfl<|Dv.nilpp h742 rfl trivial rfl<|fp h742 rfl trivial rfl fa102_3<|fb rfl trivial rfl fa99_1<|ld 1 rfl trivial rfl sc88 rfl rfl<|mv0 rfl rfl<|Dv.nilpp h742 rfl trivial rfl<|fp h742 rfl trivial rfl fa102_3<|fb rfl trivial rfl fa99_0<|ld 1 rfl trivial rfl sc33 rfl rfl<|fb rfl trivial rfl fa107_1<|ld 10 rfl trivial rfl sc9 rfl rfl<|fb rfl trivial rfl fa107_0<|ld 10 rfl trivial rfl sc9 rfl rfl<|mv0 rfl rfl<|el H fun t748 h749 H=>Dv.callx (pre:=[Mks.O g741.2.2.2.2.1 a0.fall.fMarks,VView.O g741.2.2.2.1 t743.2]) (F:=[blk g741.1 102 [vS a0.fself,eq g741.2.1.1,eq g741.2.2.1.1,eq g741.2.2.2.1.1,eq g741.2.2.2.2.1.1,eq g741.2.2.2.2.2.1.1,eq g741.2.2.2.2.2.2.1.1,eq g741.2.2.2.2.2.2.2.1.1,eq g741.2.2.2.2.2.2.2.2.1.1,eq g741.2.2.2.2.2.2.2.2.2.1],Ctr.O g741.2.1 a0.ftick,Ctr.O g741.2.2.1 a0.fstamps,TTab.O g741.2.2.2.2.2.1 a0.fall.fTyping,PTab.O g741.2.2.2.2.2.2.1 a0.fall.fPresence,DLog.O g741.2.2.2.2.2.2.2.1 a0.fall.fLog,SMosOf.O g741.2.2.2.2.2.2.2.2.1 a0.fcome,mpo Value.string SSnd.O g741.2.2.2.2.2.2.2.2.2.1 a0.fsenders,blk b740 107 (Event.enc a1),lax]++F) (fun g750:OV=>[Mks.O g741.2.2.2.2.1 t748.2,VView.O g741.2.2.2.1 t743.2,own RKey.K g750.1 t748.1,blk g741.1 102 [vS a0.fself,eq g741.2.1.1,eq g741.2.2.1.1,eq g741.2.2.2.1.1,eq g741.2.2.2.2.1.1,eq g741.2.2.2.2.2.1.1,eq g741.2.2.2.2.2.2.1.1,eq g741.2.2.2.2.2.2.2.1.1,eq g741.2.2.2.2.2.2.2.2.1.1,eq g741.2.2.2.2.2.2.2.2.2.1],Ctr.O g741.2.1 a0.ftick,Ctr.O g741.2.2.1 a0.fstamps,TTab.O g741.2.2.2.2.2.1 a0.fall.fTyping,PTab.O g741.2.2.2.2.2.2.1 a0.fall.fPresence,DLog.O g741.2.2.2.2.2.2.2.1 a0.fall.fLog,SMosOf.O g741.2.2.2.2.2.2.2.2.1 a0.fcome,mpo Value.string SSnd.O g741.2.2.2.2.2.2.2.2.2.1 a0.fsenders,blk b740 107 (Event.enc a1),lax]++F) rfl trivial cal64 rfl (marks_Marks_Arrive.c h749 (p0_:=g741.2.2.2.2.1) (p1_:=g741.2.2.2.1)) (perm_to (L:=[VView.O g741.2.2.2.1 t743.2,blk g741.1 102 [vS a0.fself,eq g741.2.1.1,eq g741.2.2.1.1,eq g741.2.2.2.1.1,eq g741.2.2.2.2.1.1,eq g741.2.2.2.2.2.1.1,eq g741.2.2.2.2.2.2.1.1,eq g741.2.2.2.2.2.2.2.1.1,eq g741.2.2.2.2.2.2.2.2.1.1,eq g741.2.2.2.2.2.2.2.2.2.1],Ctr.O g741.2.1 a0.ftick,Ctr.O g741.2.2.1 a0.fstamps,Mks.O g741.2.2.2.2.1 a0.fall.fMarks,TTab.O g741.2.2.2.2.2.1 a0.fall.fTyping,PTab.O g741.2.2.2.2.2.2.1 a0.fall.fPresence,DLog.O g741.2.2.2.2.2.2.2.1 a0.fall.fLog,SMosOf.O g741.2.2.2.2.2.2.2.2.1 a0.fcome,mpo Value.string SSnd.O g741.2.2.2.2.2.2.2.2.2.1 a0.fsenders,blk b740 107 (Event.enc a1),lax]) (F:=F) [4,0,1,2,3,5,6,7,8,9,10,11] (by kernel_rfl) rfl rfl) rfl (fun _=>pendc (pend_in (fun _=>trivial) (pend_by (by kernel_rfl) (pend_by (by kernel_rfl) (pend_by (by kernel_rfl) (pend_by (by kernel_rfl) (pend_by (by kernel_rfl) (pend_by (by kernel_rfl) (pend_by (by kernel_rfl) (pend_by (by kernel_rfl) (pend_by (by kernel_rfl) (pend_by (by kernel_rfl) (pend_by (by kernel_rfl) (pend_by (by kernel_rfl) (pend_by (by kernel_rfl) (pend_by (by kernel_rfl) pend_nil)))))))))))))))) (fun g750 _=>?_)
 refine Dv.lenw rfl trivial rfl (mem_at 2 rfl) Tryz.underlying162<|.fin<|WP.block<|wg (SSelTicStaAllComSen.shut (p:=p0_) (m:=(⟨a0.fself,a0.ftick,a0.fstamps,(⟨t743.2,t748.2,a0.fall.fTyping,a0.fall.fPresence,a0.fall.fLog⟩:Src),a0.fcome,a0.fsenders⟩:SSelTicStaAllComSen)) (g741.1,g741.2.1,g741.2.2.1,g741.2.2.2.1,g741.2.2.2.2.1,g741.2.2.2.2.2.1,g741.2.2.2.2.2.2.1,g741.2.2.2.2.2.2.2.1,g741.2.2.2.2.2.2.2.2.1,g741.2.2.2.2.2.2.2.2.2) h742 (pm 13 [3,4,5,1,0,6,7,8,9,10,2,11,12])) fun _ _=>?_
 refine wg (sg 4 [2,0,1,3] 0) fun _ _=>?_
 refine lp (fun j_ (p762:Int×SSelTicStaAllComSen)=>server_Server_Event.l0 k t748 j_ p762.1 p762.2) (0,(⟨a0.fself,a0.ftick,a0.fstamps,(⟨t743.2,t748.2,a0.fall.fTyping,a0.fall.fPresence,a0.fall.fLog⟩:Src),a0.fcome,a0.fsenders⟩:SSelTicStaAllComSen)) H (fun p762=>[(0,eq p0_.1),(32,eq g750.1),(33,vI (t748.1.length:Int)),(34,vI p762.1)]) (fun p762=>[blk b740 107 (Event.enc a1),SSelTicStaAllComSen.O p0_ p762.2,own RKey.K g750.1 t748.1,lax]++F) ?_
 rintro j_ ⟨x751,x752⟩ H
 rcases j_ with _ | j761
 ·
  exact (Gets.no H).elim
 try dsimp only at H
 rw [server_Server_Event.l0] at H
 refine WP.seq<|rg 1 0<|bn0 rfl rfl rfl run_lt<|.fin<|WP.seq<|cd H rfl (fun _ H=>?_) (fun _ H=>?_)
 rotate_left
 ·
  refine WP.exit ?_
  have H:=H.out
  refine ng (sg 4 [0,1,3,2] 0) fun _ _=>?_
  exact jn (((t748.1.length:Int),x751,decide (x751 < (t748.1.length:Int)),x752,t748.1),g750) H
 refine WP.skip<|WP.seq<|WP.block<|WP.seq<|rg 4 12<|gr H fun g754 H=>?_
 have h755:x751.toNat < t748.1.length:=idx_lt g754
 refine Dv.ixw rfl trivial rfl (mem_at 2 rfl) rfl Tryz.underlying162 Tryz.underlying47 c47 g754.1 g754.2<|Dv.ldws (j:=x751.toNat) (f:=0) rfl trivial rfl (mem_at 2 rfl) h755 Tryz.underlying47 rfl c47 (Nat.le_of_ble_eq_true rfl)<|al rfl trivial zc47 nofun fun b756=>sx 0 rfl trivial rfl rfl cA sz47 rfl rfl rfl nofun ?_
 refine .fin<|rg 4 8<|mv0 rfl rfl<|lds 0 rfl trivial rfl sg47 rfl rfl<|el H fun t757 h758 H=>cll 5 [4,0,1,2,3] cal66 (sync_MarkKey.c h758) ?_
 refine el H fun t759 h760 H=>cx 5 [2,0,1,3,4] cal65 (server_Server_note.c h760 (p0_:=p0_)) nofun fun _ _=>?_
 refine .fin<|rg 2 0<|bn0 rfl rfl rfl run_add<|mv0 rfl rfl<|.fin<|ng (sg 5 [1,2,0,3,4] 1) fun _ _=>?_
 exact bk j761 (w64 (x751 + 1),t759) H
theorem posC_f (x y:Pos):dag_Compare.f 8 x y = some (posC x y):=by
 unfold dag_Compare.f cmp_Compare_int.f cmp_Compare_string.f cmp_isNaN_int.f cmp_isNaN_string.f cmp_Or_int.f posC cmpS
 simp only [Option.bind_some,bne_self_eq_false,decide_true,Bool.not_true,cond_false]
 rcases Int.lt_trichotomy x.fDepth y.fDepth with h | h | h
 ·
  have h2:¬ y.fDepth < x.fDepth:=by omega
  simp only [h,decide_true,cond_true,Option.bind_some,if_true]
  cases sLt x.fID y.fID <;> cases sLt y.fID x.fID <;> rfl
 rotate_left
 ·
  have h1:¬ x.fDepth < y.fDepth:=by omega
  simp only [h,h1,decide_true,decide_false,cond_true,cond_false,Option.bind_some,if_true,if_false]
  cases sLt x.fID y.fID <;> cases sLt y.fID x.fID <;> rfl
 have h1:¬ x.fDepth < y.fDepth:=by omega
 have h2:¬ y.fDepth < x.fDepth:=by omega
 simp only [h1,h2,decide_false,cond_false,Option.bind_some,if_false]
 cases sLt x.fID y.fID <;> cases sLt y.fID x.fID <;> rfl
theorem posC_lt (x y:Pos):ltOf posC x y = true↔x.fDepth < y.fDepth∨(x.fDepth = y.fDepth∧sLt x.fID y.fID = true):=by
 unfold ltOf posC
 rw [decide_eq_true_eq]
 by_cases h:x.fDepth < y.fDepth
 ·
  simp [h]
 by_cases h2:y.fDepth < x.fDepth
 ·
  rw [if_neg h,if_pos h2]; constructor
  ·
   intro k; omega
  rintro (k | ⟨k,_⟩) <;> omega
 rw [if_neg h,if_neg h2,cmpS_lt]; constructor
 ·
  intro k; exact .inr ⟨by omega,k⟩
 rintro (k | ⟨_,k⟩)
 ·
  omega
 exact k
theorem posC_nlt (x y:Pos):ltOf posC x y = false↔y.fDepth < x.fDepth∨(x.fDepth = y.fDepth∧sLt x.fID y.fID = false):=by
  have h:=posC_lt x y
  cases e:ltOf posC x y with
  | true=>
    have h:=h.1 e
    refine ⟨fun k=>(by cases k),fun k=>?_⟩
    rcases h with h | ⟨h1,h2⟩ <;> rcases k with k | ⟨k1,k2⟩
    · omega
    · omega
    · omega
    · rw [h2] at k2; cases k2
  | false=>
    refine ⟨fun _=>?_,fun _=>rfl⟩
    rw [e] at h
    have h:¬ _:=fun k=>by have:=h.2 k; cases this
    rcases Int.lt_trichotomy x.fDepth y.fDepth with k | k | k
    · exact (h (.inl k)).elim
    · cases e2:sLt x.fID y.fID with
      | true=>exact (h (.inr ⟨k,e2⟩)).elim
      | false=>exact .inr ⟨k,rfl⟩
    · exact .inl k
theorem posC_swo:Go.Sort.SWO (ltOf posC) where
  irrefl x:=by rw [posC_nlt]; exact .inr ⟨rfl,sLt_irrefl _⟩
  trans x y z h1 h2:=by
    rw [posC_lt] at *
    rcases h1 with h1 | ⟨h1,k1⟩ <;> rcases h2 with h2 | ⟨h2,k2⟩
    · exact .inl (by omega)
    · exact .inl (by omega)
    · exact .inl (by omega)
    · exact .inr ⟨by omega,sLt_trans k1 k2⟩
  ntrans x y z h1 h2:=by
    rw [posC_nlt] at *
    rcases h1 with h1 | ⟨h1,k1⟩ <;> rcases h2 with h2 | ⟨h2,k2⟩
    · exact .inl (by omega)
    · exact .inl (by omega)
    · exact .inl (by omega)
    · exact .inr ⟨by omega,sLt_ntrans k2 k1⟩
theorem posC_tot (x y:Pos) (h1:ltOf posC x y = false) (h2:ltOf posC y x = false):x = y:=by
 rw [posC_nlt] at *
 rcases h1 with h1 | ⟨h1,k1⟩ <;> rcases h2 with h2 | ⟨h2,k2⟩
 ·
  omega
 ·
  omega
 ·
  omega
 obtain ⟨a,b⟩:=x; obtain ⟨c,d⟩:=y
 simp only at h1 k1 k2
 rw [h1,sLt_conn k1 k2]
theorem slices_SortFunc_Position.c {a0:List Pos} {p0_:OV} {r:List Pos} (h:slices_SortFunc_Position.f a0 = some r):Tr Tryz.prog 298 [eq p0_.1,eq (.func (.func 227) #[] #[])] [own Pos.K p0_.1 a0] (γ:=Unit) (fun _=>True) (fun g=>tup []) (fun g=>[own Pos.K p0_.1 r]):=by
 unfold slices_SortFunc_Position.f at h
 obtain ⟨h0,h5⟩:=(Gets.of h).grd
 obtain rfl:=Gets.out h5
 exact sortf_tr (K:=Pos.K) (ev:=fun x=>[.int .i64 x.fDepth,.string x.fID]) (fun _=>rfl) (by decide) (fun x y=>dag_Compare.c (posC_f x y)) (fun blk off cap d w hc hH hb hs=>AnyQ.slices_SortFunc_total Tryz.lays6 2 Tryz.isAgg49 Tryz.sizeOf49 _ (fun _=>rfl) (fun x v hv=>by simp at hv; rcases hv with rfl | rfl <;> rfl) posC posC_swo 227 #[] blk off cap d w (enters_of Tryz.func227 (by kernel_rfl) rfl) hc hH hb hs posC_tot) (fun q cap w=>AnyF.slices_SortFunc_none Tryz.lays6 q cap _ w) (by omega)
theorem dag_Dag_All_1.c {a0:DNode} {b0_:Nat} {r:Bool} (h:dag_Dag_All_1.f a0 = some r):Tr Tryz.prog 291 [eq (.pointer (some ⟨b0_,0,none⟩))] [blk b0_ 278 [vS a0.fe.fID,vS a0.fe.fRoom,sl strK a0.fe.fParents,vS a0.fe.fThread,vS a0.fe.fUser,vI a0.fe.fDoes,vI a0.fdepth,vB a0.fparent]] (γ:=Unit) (fun _=>True) (fun g=>vB r) (fun g=>[blk b0_ 278 [vS a0.fe.fID,vS a0.fe.fRoom,sl strK a0.fe.fParents,vS a0.fe.fThread,vS a0.fe.fUser,vI a0.fe.fDoes,vI a0.fdepth,vB a0.fparent]]):=by
 unfold dag_Dag_All_1.f at h
 refine tb Tryz.func291 Tryz.ntmps291 h fun R0 F H=>?_
 refine WP.seq<|rg 1 0<|as0 rfl rfl<|.fin<|WP.seq<|rg 1 0<|as0 rfl rfl<|.fin ?_
 cases H.out; exact rt i2 rfl () 1 [0] 0 (.cons (res_tmp rfl) .nil)
theorem dag_Dag_ids_All.c {a0:DDag} {b0_:Nat} {v0_0:OV} {r:List ByteArray} (h:dag_Dag_ids_All.f a0 = some r):Tr Tryz.prog 290 [eq (.pointer (some ⟨b0_,0,none⟩)),eq (.func (.func 291) #[] #[])] [blk b0_ 274 [vS a0.froom,eq v0_0.1],mpo Value.string DNode.O v0_0.1 a0.fnodes] (γ:=OV) (fun _=>True) (fun g=>eq g.1) (fun g=>[blk b0_ 274 [vS a0.froom,eq v0_0.1],mpo Value.string DNode.O v0_0.1 a0.fnodes,own strK g.1 r]):=by
  unfold dag_Dag_ids_All.f at h
  obtain ⟨h0,h5⟩:=(Gets.of h).grd
  obtain rfl:=Gets.out h5
  clear h h5
  refine Tr.body Tryz.func290 (c:=_) rfl Tryz.ntmps290 (Nat.le_of_ble_eq_true rfl) fun R0 F=>?_
  refine WP.seq<|rg 1 0<|as0 rfl rfl<|.fin<|WP.seq<|rg 1 0<|as0 rfl rfl<|.fin ?_
  refine WP.seqj (β:=List Nat×OV) (fun b=>b.1.Perm (List.range a0.fnodes.length)) (fun b=>[(5,eq b.2.1),(1,eq (.func (.func 291) #[] #[]))]) (fun b=>[own Pos.K b.2.1 (selM a0.fnodes dag_Dag_ids_All.g b.1),mpo Value.string DNode.O v0_0.1 a0.fnodes,blk b0_ 274 [vS a0.froom,eq v0_0.1]]++F) (fun b hb=>?_) ?_
  rotate_left
  · refine WP.seq<|rg 5 16<|mv0 rfl rfl<|Dv.nilp rfl trivial rfl<|fb rfl trivial rfl fa274_1<|ld 0 rfl trivial rfl sc272 rfl rfl ?_
    refine Dv.gh (l':=fun ps:List OV=>[mp Value.string (fun p:OV=>eq p.1) v0_0.1 (zipK a0.fnodes ps),thg DNode.O a0.fnodes ps,blk b0_ 274 [vS a0.froom,eq v0_0.1]]++F) (gh_of (mpo_opn 1 rfl)) (fun ps hps=>?_)
    refine Dv.rgb (jj:=0) rfl trivial rfl rfl Tryz.underlying272 nofun (fun q=>.fin ?_)
    refine WP.gh (l':=fun _:Unit=>[rng Value.string (fun p:OV=>eq p.1) v0_0.1 q.1 (zipK a0.fnodes ps) [],thg DNode.O a0.fnodes ps,blk b0_ 274 [vS a0.froom,eq v0_0.1]]++F) (gh_of (ok:=fun _=>True) fun R w k=>⟨(),trivial,k⟩) (fun _ _=>?_)
    refine WP.gh (l':=fun _:Unit=>[own Pos.K nilV.1 [],rng Value.string (fun p:OV=>eq p.1) v0_0.1 q.1 (zipK a0.fnodes ps) [],thg DNode.O a0.fnodes ps,blk b0_ 274 [vS a0.froom,eq v0_0.1]]++F) (gh_of (st_nil Pos.K none)) (fun _ _=>?_)
    refine WP.block ?_
    refine WP.weak (E':=(fun b:List Nat×OV=>[(5,eq b.2.1),(15,eq q.1),(1,eq (.func (.func 291) #[] #[]))]) ([],nilV)) (weak_cons rfl (weak_cons rfl (weak_cons rfl weak_nil))) (WP.loop (β:=List Nat×OV) (fun k b=>b.1.length + k = a0.fnodes.length) (fun b=>[(5,eq b.2.1),(15,eq q.1),(1,eq (.func (.func 291) #[] #[]))]) (fun b=>[own Pos.K b.2.1 (selM a0.fnodes dag_Dag_ids_All.g b.1),rng Value.string (fun p:OV=>eq p.1) v0_0.1 q.1 (zipK a0.fnodes ps) b.1,thg DNode.O a0.fnodes ps,blk b0_ 274 [vS a0.froom,eq v0_0.1]]++F) ?_ (k:=a0.fnodes.length) (b:=([],nilV)) (Nat.zero_add _))
    rintro k ⟨is,v⟩ hk
    replace hk:is.length + k = a0.fnodes.length:=hk
    refine WP.seq<|rg 2 1<|Dv.rgn (jj:=1) rfl trivial rfl rfl nofun (fun z hz=>?_)
    rcases z with _ | j
    · have hz:is.Perm (List.range (zipK a0.fnodes ps).length):=hz
      rw [zipK_len hps.1] at hz
      refine ex0 rfl trivial rfl rfl<|.fin<|WP.seq<|WP.cond rfl nofun (fun _=>WP.exit ?_)
      refine Dn.gh (l':=fun _:Unit=>[own Pos.K v.1 (selM a0.fnodes dag_Dag_ids_All.g is),rng Value.string (fun p:OV=>eq p.1) v0_0.1 q.1 (zipK a0.fnodes ps) is,thg DNode.O a0.fnodes ps,blk b0_ 274 [vS a0.froom,eq v0_0.1]]++F) (gh_of (ok:=fun _=>True) fun R w k=>⟨(),trivial,k⟩) (fun _ _=>?_)
      refine Dn.gh (l':=fun _:Unit=>[mp Value.string (fun p:OV=>eq p.1) v0_0.1 (zipK a0.fnodes ps),own Pos.K v.1 (selM a0.fnodes dag_Dag_ids_All.g is),thg DNode.O a0.fnodes ps,blk b0_ 274 [vS a0.froom,eq v0_0.1]]++F) (gh_of (st_rge (pm 4 [1,0,2,3]))) (fun _ _=>?_)
      refine Dn.gh (l':=fun _:Unit=>[mpo Value.string DNode.O v0_0.1 a0.fnodes,own Pos.K v.1 (selM a0.fnodes dag_Dag_ids_All.g is),blk b0_ 274 [vS a0.froom,eq v0_0.1]]++F) (gh_of (mpo_shut hps rfl (pm 4 [0,2,1,3]))) (fun _ _=>?_)
      exact Jn.mk (is,v) hz (weak_cons rfl (weak_cons rfl weak_nil)) (perm_ton 3 [1,0,2] (by kernel_rfl) rfl rfl)
    have hz:j < (zipK a0.fnodes ps).length∧j ∉ is∧is.length < (zipK a0.fnodes ps).length:=hz
    obtain ⟨e,p,he,hp,hep⟩:=zipK_get hps hz.1
    have hlt:is.length < a0.fnodes.length:=by rw [← zipK_len hps.1]; exact hz.2.2
    have hsl:=Nat.le_trans (selM_len (m:=a0.fnodes) (f:=dag_Dag_ids_All.g) (is:=is)) (Nat.le_of_lt hlt)
    have e1:nxV Value.string (fun p:OV=>eq p.1) (zipK a0.fnodes ps) (some j) = tup [vB true,vS e.1,eq p.1]:=by simp only [nxV,hep]
    rw [e1]
    refine ex0 rfl trivial rfl rfl<|.fin<|WP.seq<|WP.cond rfl (fun _=>WP.skip ?_) nofun
    refine WP.gh (l':=fun _:Unit=>[own Pos.K v.1 (selM a0.fnodes dag_Dag_ids_All.g is),rng Value.string (fun p:OV=>eq p.1) v0_0.1 q.1 (zipK a0.fnodes ps) (is++[j]),thg DNode.O a0.fnodes ps,blk b0_ 274 [vS a0.froom,eq v0_0.1]]++F) (gh_of (ok:=fun _=>True) fun R w k=>⟨(),trivial,k⟩) (fun _ _=>?_)
    refine WP.block<|WP.seq<|rg 5 0<|Dv.rge 1 rfl trivial rfl rfl hep ?_
    refine ex0 rfl trivial rfl rfl<|ex0 rfl trivial rfl rfl<|as0 rfl rfl<|as0 rfl rfl<|.fin ?_
    refine WP.gh (l':=fun _:Unit=>[DNode.O p e.2,thgX DNode.O a0.fnodes ps j,own Pos.K v.1 (selM a0.fnodes dag_Dag_ids_All.g is),rng Value.string (fun p:OV=>eq p.1) v0_0.1 q.1 (zipK a0.fnodes ps) (is++[j]),blk b0_ 274 [vS a0.froom,eq v0_0.1]]++F) (gh_of (thg_foc he hp (pm 4 [2,0,1,3]))) (fun _ _=>?_)
    refine WP.gh (l':=fun b:Nat=>[blk b 278 [vS e.2.fe.fID,vS e.2.fe.fRoom,sl strK e.2.fe.fParents,vS e.2.fe.fThread,vS e.2.fe.fUser,vI e.2.fe.fDoes,vI e.2.fdepth,vB e.2.fparent],thgX DNode.O a0.fnodes ps j,own Pos.K v.1 (selM a0.fnodes dag_Dag_ids_All.g is),rng Value.string (fun p:OV=>eq p.1) v0_0.1 q.1 (zipK a0.fnodes ps) (is++[j]),blk b0_ 274 [vS a0.froom,eq v0_0.1]]++F) (gh_of (DNode.opn 0 rfl)) (fun b hb=>?_)
    refine WP.seq<|rg 3 0<|mv0 rfl rfl<|mv0 rfl rfl<|Dv.callc (fst:=#[]) (B:=[blk b 278 [vS e.2.fe.fID,vS e.2.fe.fRoom,sl strK e.2.fe.fParents,vS e.2.fe.fThread,vS e.2.fe.fUser,vI e.2.fe.fDoes,vI e.2.fdepth,vB e.2.fparent]]) (F:=[thgX DNode.O a0.fnodes ps j,own Pos.K v.1 (selM a0.fnodes dag_Dag_ids_All.g is),rng Value.string (fun p:OV=>eq p.1) v0_0.1 q.1 (zipK a0.fnodes ps) (is++[j]),blk b0_ 274 [vS a0.froom,eq v0_0.1]]++F) rfl trivial rfl cal291 rfl (Tr.weak (dag_Dag_All_1.c (a0:=e.2) (b0_:=b) (r:=true) rfl) (.cons (wk_ptr hb) .nil)) (List.Perm.refl _)<|.fin ?_
    refine WP.cond rfl (fun c1=>?_) (fun c1=>?_)
    · have hg:dag_Dag_ids_All.g e = some ⟨e.2.fdepth,e.1⟩:=by unfold dag_Dag_ids_All.g; rw [c1]; rfl
      have e6:=selM_some (f:=dag_Dag_ids_All.g) (is:=is) he hg
      have hbd:(selM a0.fnodes dag_Dag_ids_All.g is).length + ([⟨e.2.fdepth,e.1⟩]:List Pos).length≤9223372036854775807∧((selM a0.fnodes dag_Dag_ids_All.g is).length + ([⟨e.2.fdepth,e.1⟩]:List Pos).length) * 24≤140737488355328:=by rw [List.length_singleton]; omega
      refine rg 10 256<|mv0 rfl rfl<|mv0 rfl rfl<|Dv.nilpp hb rfl trivial rfl<|fp hb rfl trivial rfl fa278_1<|ld 0 rfl trivial rfl sc3 rfl rfl<|mv0 rfl rfl<|Dv.bld (css:=[[vI e.2.fdepth],[vS e.1]]) rfl trivial Tryz.underlying49 pl49 z49 rfl ⟨(cells_one (one_eq rfl)),⟨(cells_one (one_eq rfl)),trivial⟩⟩ rfl rfl<|Dv.lit Pos.K ([⟨e.2.fdepth,e.1⟩]:List Pos) (css:=[[vI e.2.fdepth,vS e.1]]) rfl trivial Tryz.underlying401 Tryz.underlying49 c49 z49 rfl (by decide) (by decide) rfl ⟨cA,trivial⟩ rfl rfl rfl<|ap Pos.K 2 ([⟨e.2.fdepth,e.1⟩]:List Pos) src_sl Tryz.underlying401 (.inr ⟨_,Tryz.underlying401⟩) inf49 hbd nofun fun v9=>as0 rfl rfl<|.fin ?_
      refine Dn.gh (l':=fun _:Unit=>[DNode.O p e.2,thgX DNode.O a0.fnodes ps j,own Pos.K v9.1 ((selM a0.fnodes dag_Dag_ids_All.g is)++([⟨e.2.fdepth,e.1⟩]:List Pos)),rng Value.string (fun p:OV=>eq p.1) v0_0.1 q.1 (zipK a0.fnodes ps) (is++[j]),blk b0_ 274 [vS a0.froom,eq v0_0.1]]++F) (gh_of (DNode.shut (p:=p) (m:=e.2) b hb (List.Perm.refl _))) (fun _ _=>?_)
      refine Dn.gh (l':=fun _:Unit=>[thg DNode.O a0.fnodes ps,own Pos.K v9.1 ((selM a0.fnodes dag_Dag_ids_All.g is)++([⟨e.2.fdepth,e.1⟩]:List Pos)),rng Value.string (fun p:OV=>eq p.1) v0_0.1 q.1 (zipK a0.fnodes ps) (is++[j]),blk b0_ 274 [vS a0.froom,eq v0_0.1]]++F) (gh_of (thg_unf he hp (List.Perm.refl _))) (fun _ _=>?_)
      rw [e6]
      exact Back.mk (k - 1) (is++[j],v9) (by omega) (by show (is++[j]).length + (k - 1) = _; rw [List.length_append,List.length_singleton]; omega) (weak_cons rfl (weak_cons rfl (weak_cons rfl weak_nil))) (perm_ton 4 [1,2,0,3] (by kernel_rfl) rfl rfl)
    cases c1
  obtain ⟨is,v5⟩:=b
  replace hb:is.Perm (List.range a0.fnodes.length):=hb
  have hp:=selM_perm (f:=dag_Dag_ids_All.g) hb
  have hs:slices_SortFunc_Position.f (selM a0.fnodes dag_Dag_ids_All.g is) = some (srtF posC (a0.fnodes.filterMap dag_Dag_ids_All.g)):=by
    unfold slices_SortFunc_Position.f Sp.grd
    rw [if_pos (by rw [hp.length_eq]; exact Nat.le_trans (List.length_filterMap_le _ _) h0),srtF_perm posC_swo posC_tot hp]
  have hS:(srtF posC (a0.fnodes.filterMap dag_Dag_ids_All.g)).length≤1000000:=by rw [srtF_def,List.length_mergeSort]; exact Nat.le_trans (List.length_filterMap_le _ _) h0
  refine WP.seq<|rg 2 2<|mv0 rfl rfl<|cx 3 [0,1,2] cal298 (slices_SortFunc_Position.c hs (p0_:=v5)) nofun fun _ _=>.fin ?_
  generalize srtF posC (a0.fnodes.filterMap dag_Dag_ids_All.g) = S at hS
  refine WP.seq<|rg 1 0<|as0 rfl rfl<|.fin ?_
  refine WP.seqj (β:=OV) (fun _=>True) (fun v=>[(8,eq v.1)]) (fun v=>[own strK v.1 (S.map (·.fID)),own Pos.K v5.1 S,mpo Value.string DNode.O v0_0.1 a0.fnodes,blk b0_ 274 [vS a0.froom,eq v0_0.1]]++F) (fun v _=>?_) ?_
  · refine WP.seq<|rg 2 0<|mv0 rfl rfl<|as0 rfl rfl<|.fin<|rt i2 rfl v 4 [1,3,2,0] 1 (.cons (res_tmp rfl) .nil)
  refine WP.seq<|rg 3 0<|mv0 rfl rfl<|Dv.lenw (Kd:=Pos.K) (xs:=S) (v:=v5.1) rfl trivial rfl (mem_at 0 rfl) Tryz.underlying401<|mv0 rfl rfl<|.fin ?_
  refine WP.gh (l':=fun _:Unit=>[own strK nilV.1 [],own Pos.K v5.1 S,mpo Value.string DNode.O v0_0.1 a0.fnodes,blk b0_ 274 [vS a0.froom,eq v0_0.1]]++F) (gh_of (st_nil strK none)) (fun _ _=>?_)
  refine WP.block ?_
  refine WP.weak (E':=(fun b:Nat×OV=>[(8,eq b.2.1),(35,eq v5.1),(36,vI (S.length:Int)),(37,vI (b.1:Int))]) (0,nilV)) (weak_cons rfl (weak_cons rfl (weak_cons rfl (weak_cons rfl weak_nil)))) (WP.loop (β:=Nat×OV) (fun k b=>b.1 + k = S.length) (fun b=>[(8,eq b.2.1),(35,eq v5.1),(36,vI (S.length:Int)),(37,vI (b.1:Int))]) (fun b=>[own strK b.2.1 ((S.take b.1).map (·.fID)),own Pos.K v5.1 S,mpo Value.string DNode.O v0_0.1 a0.fnodes,blk b0_ 274 [vS a0.froom,eq v0_0.1]]++F) ?_ (k:=S.length) (b:=(0,nilV)) (Nat.zero_add _))
  rintro k ⟨j,v8⟩ hk
  replace hk:j + k = S.length:=hk
  refine WP.seq<|rg 1 0<|bn0 rfl rfl rfl run_lt<|.fin<|WP.seq<|WP.cond rfl (fun c2=>WP.skip ?_) (fun c2=>WP.exit ?_)
  rotate_left
  · have c3:¬ ((j:Int) < (S.length:Int)):=of_decide_eq_false c2
    have e3:S.take j = S:=List.take_of_length_le (by omega)
    change ∀ R a w,R0.le R→Agr _ R a _→St R ([own strK v8.1 ((S.take j).map (·.fID)),own Pos.K v5.1 S,mpo Value.string DNode.O v0_0.1 a0.fnodes,blk b0_ 274 [vS a0.froom,eq v0_0.1]]++F) w→_
    rw [e3]
    exact Jn.mk v8 trivial (weak_cons rfl weak_nil) (List.Perm.refl _)
  have c3:(j:Int) < (S.length:Int):=of_decide_eq_true c2
  have hj:j < S.length:=by omega
  refine WP.seq<|WP.block<|WP.seq<|rg 4 12<|Dv.ixw rfl trivial rfl (mem_at 1 rfl) rfl Tryz.underlying401 Tryz.underlying49 c49 (by omega) c3<|Dv.ldws (j:=j) (f:=0) rfl trivial rfl (mem_at 1 rfl) hj Tryz.underlying49 rfl c49 (Nat.le_of_ble_eq_true rfl)<|al rfl trivial zc49 nofun fun b=>sx 0 rfl trivial rfl rfl cA sz49 rfl rfl rfl nofun<|.fin ?_
  have hbd:((S.take j).map (·.fID)).length + ([(S.getD j default).fID]:List ByteArray).length≤9223372036854775807∧(((S.take j).map (·.fID)).length + ([(S.getD j default).fID]:List ByteArray).length) * 16≤140737488355328:=by rw [List.length_singleton,List.length_map,List.length_take]; omega
  refine rg 6 16<|mv0 rfl rfl<|fb rfl trivial rfl fa49_1<|ld 0 rfl trivial rfl sc9 rfl rfl<|Dv.lit strK ([(S.getD j default).fID]:List ByteArray) (css:=[[vS ((S.getD j default).fID)]]) rfl trivial Tryz.underlying23 Tryz.underlying9 c9 z9 rfl (by decide) (by decide) rfl ⟨(cells_one (one_eq rfl)),trivial⟩ rfl rfl rfl<|ap strK 1 ([(S.getD j default).fID]:List ByteArray) src_sl Tryz.underlying23 (.inr ⟨_,Tryz.underlying23⟩) inf9 hbd nofun fun v9=>as0 rfl rfl<|.fin ?_
  refine WP.gh (l':=fun _:Unit=>[own strK v9.1 ((S.take j).map (·.fID)++([(S.getD j default).fID]:List ByteArray)),own Pos.K v5.1 S,mpo Value.string DNode.O v0_0.1 a0.fnodes,blk b0_ 274 [vS a0.froom,eq v0_0.1]]++F) (gh_of (st_selgn 5 [0,1,2,3,4] 1 (by kernel_rfl) rfl rfl)) (fun _ _=>?_)
  have e4:(S.take j).map (·.fID)++([(S.getD j default).fID]:List ByteArray) = (S.take (j + 1)).map (·.fID):=by rw [List.take_add_one,List.map_append,List.getD_eq_getElem?_getD,List.getElem?_eq_getElem hj]; rfl
  rw [e4]
  refine rg 2 0<|bn0 rfl rfl rfl (run_addn (a:=j) (b:=1) (by omega))<|mv0 rfl rfl<|.fin ?_
  exact Back.mk (k - 1) (j + 1,v9) (by omega) (by show j + 1 + (k - 1) = S.length; omega) (weak_cons rfl (weak_cons rfl (weak_cons rfl (weak_cons rfl weak_nil)))) (List.Perm.refl _)
theorem dag_Dag_All.c {k:Nat} {a0:DDag} {v0_0:OV} {b0_:Nat} {r:(List Event)} (h:dag_Dag_All.f k a0 = some r):Tr Tryz.prog 279 [eq (.pointer (some ⟨b0_,0,none⟩))] [blk b0_ 274 [vS a0.froom,eq v0_0.1],mpo Value.string DNode.O v0_0.1 a0.fnodes] (γ:=OV) (fun _=>True) (fun g=>eq g.1) (fun g=>[blk b0_ 274 [vS a0.froom,eq v0_0.1],mpo Value.string DNode.O v0_0.1 a0.fnodes,own Event.K g.1 r]):=by
 unfold dag_Dag_All.f at h
 refine tb Tryz.func279 Tryz.ntmps279 h fun R0 F H=>?_
 refine WP.seq<|rg 1 0<|as0 rfl rfl<|.fin<|WP.seq<|rg 1 0<|as0 rfl rfl<|.fin<|WP.seqn H (fun q787:(Int×Int×Bool×(List Event)×(List ByteArray))×OV×OV=>q787.1) (fun q787:(Int×Int×Bool×(List Event)×(List ByteArray))×OV×OV=>[(3,eq q787.2.1.1)]) (fun q787:(Int×Int×Bool×(List Event)×(List ByteArray))×OV×OV=>[blk b0_ 274 [vS a0.froom,eq v0_0.1],mpo Value.string DNode.O v0_0.1 a0.fnodes,own Event.K q787.2.1.1 q787.1.2.2.2.1,own strK q787.2.2.1 q787.1.2.2.2.2]++F) (fun q787 H=>?_) (fun H=>?_)
 ·
  obtain ⟨p764,v765,v766⟩:=q787
  refine WP.seq<|rg 2 0<|mv0 rfl rfl<|as0 rfl rfl<|.fin ?_
  obtain rfl:=Gets.out H
  exact rt i2 rfl v765 4 [3,0,1,2] 1 (.cons (res_tmp rfl) .nil)
 refine WP.seq<|rg 4 2<|mv0 rfl rfl<|el H fun t767 h768 H=>cx 2 [0,1] cal290 (dag_Dag_ids_All.c h768 (b0_:=b0_) (v0_0:=v0_0)) nofun fun g769 _=>?_
 refine Dv.lenw rfl trivial rfl (mem_at 2 rfl) Tryz.underlying23<|mv0 rfl rfl<|.fin<|WP.block<|wg (st_nil Event.K none) fun _ _=>?_
 refine wg (sg 4 [1,2,3,0] 0) fun _ _=>?_
 refine lp (fun j_ (p786:Int×(List Event)×OV)=>dag_Dag_All.l0 k a0 t767 j_ p786.1 p786.2.1) (0,([]:List Event),nilV) H (fun p786=>[(0,eq (.pointer (some ⟨b0_,0,none⟩))),(3,eq p786.2.2.1),(7,eq g769.1),(8,vI (t767.length:Int)),(9,vI p786.1)]) (fun p786=>[blk b0_ 274 [vS a0.froom,eq v0_0.1],mpo Value.string DNode.O v0_0.1 a0.fnodes,own strK g769.1 t767,own Event.K p786.2.2.1 p786.2.1]++F) ?_
 rintro j_ ⟨x770,x771,v772⟩ H
 rcases j_ with _ | j785
 ·
  exact (Gets.no H).elim
 try dsimp only at H
 rw [dag_Dag_All.l0] at H
 refine WP.seq<|rg 1 0<|bn0 rfl rfl rfl run_lt<|.fin<|WP.seq<|cd H rfl (fun _ H=>?_) (fun _ H=>?_)
 rotate_left
 ·
  refine WP.exit ?_
  have H:=H.out
  refine ng (sg 4 [0,1,3,2] 0) fun _ _=>?_
  exact jn (((t767.length:Int),x770,decide (x770 < (t767.length:Int)),x771,t767),v772,g769) H
 refine WP.skip<|WP.seq<|WP.block<|WP.seq<|rg 3 0<|gr H fun g774 H=>?_
 have h775:x770.toNat < t767.length:=idx_lt g774
 refine Dv.ixw rfl trivial rfl (mem_at 2 rfl) rfl Tryz.underlying23 Tryz.underlying9 c9 g774.1 g774.2<|Dv.ldw (j:=x770.toNat) (f:=0) (p:=vS (t767.getD x770.toNat default)) rfl trivial rfl (mem_at 2 rfl) h775 Tryz.underlying9 rfl rfl<|as0 rfl rfl<|.fin<|rg 14 4096<|mv0 rfl rfl<|mv0 rfl rfl<|Dv.nilp rfl trivial rfl<|fb rfl trivial rfl fa274_1<|ld 0 rfl trivial rfl sc272 rfl rfl<|mv0 rfl rfl<|vg (mpo_opn 1 rfl) fun z776 h777=>?_
 refine Dv.mlv nilP rfl trivial rfl (mem_at 0 rfl) rfl Tryz.underlying272 (keyOk_str Tryz.underlying9) z276 (fun _=>rfl)<|gr H fun g778 H=>vg (mpo_foc h777 rfl g778 (pm 5 [1,0,2,3,4])) fun _ _=>?_
 refine Dv.nilA DNode.nn rfl trivial rfl (mem_at 0 rfl)<|vg (DNode.opn 0 rfl) fun g779 h780=>?_
 refine fp h780 rfl trivial rfl fa278_0<|lds 0 rfl trivial rfl sg107 rfl rfl<|el H fun t781 h782 H=>cl rfl cal155 rfl (dag_own.c h782)<|Dv.lit Event.K ([t781]:List Event) (css:=[Event.enc t781]) rfl trivial Tryz.underlying70 Tryz.underlying107 c107 z107 rfl (by decide) (by decide) rfl ⟨(cells_agg (Event.K.one _)),trivial⟩ rfl rfl rfl<|gr H fun g783 H=>ap Event.K 5 ([t781]:List Event) src_sl Tryz.underlying70 (.inr ⟨_,Tryz.underlying70⟩) inf107 g783 nofun fun v784=>?_
 refine as0 rfl rfl<|.fin<|rg 2 0<|bn0 rfl rfl rfl run_add<|mv0 rfl rfl<|.fin<|ng (DNode.shut (p:=((mget (zipK a0.fnodes z776) (t767.getD x770.toNat default)).getD nilP)) (m:=(mget a0.fnodes (t767.getD x770.toNat default)).getD default) g779 h780 (pm 6 [0,1,2,3,4,5])) fun _ _=>?_
 refine ng (mpo_unf0 h777 rfl g778 (pm 6 [0,1,2,3,4,5])) fun _ _=>?_
 refine ng (mpo_shut h777 rfl (pm 5 [1,0,2,3,4])) fun _ _=>?_
 refine ng (sg 4 [1,0,2,3] 0) fun _ _=>?_
 exact bk j785 (w64 (x770 + 1),x771++([t781]:List Event),v784) H
theorem member_joined.c {k:Nat} {a0:DDag} {v0_0:OV} {b0_:Nat} {r:(List (ByteArray×Int))} (h:member_joined.f k a0 = some r):Tr Tryz.prog 238 [eq (.pointer (some ⟨b0_,0,none⟩))] [blk b0_ 274 [vS a0.froom,eq v0_0.1],mpo Value.string DNode.O v0_0.1 a0.fnodes] (γ:=OV) (fun _=>True) (fun g=>eq g.1) (fun g=>[blk b0_ 274 [vS a0.froom,eq v0_0.1],mpo Value.string DNode.O v0_0.1 a0.fnodes,mp Value.string (fun x:Int=>vI x) g.1 r]):=by
 unfold member_joined.f at h
 refine tb Tryz.func238 Tryz.ntmps238 h fun R0 F H=>?_
 refine WP.seq<|rg 1 0<|as0 rfl rfl<|.fin<|WP.seq<|rg 2 1<|Dv.mmk Value.string (fun x:Int=>vI x) rfl trivial nofun (fun v788=>?_)
 refine as0 rfl rfl<|.fin<|WP.seqn H (fun q804:(Int×Int×Bool×(List (ByteArray×Int))×(List Event))×OV=>q804.1) (fun q804:(Int×Int×Bool×(List (ByteArray×Int))×(List Event))×OV=>[(3,eq v788.1)]) (fun q804:(Int×Int×Bool×(List (ByteArray×Int))×(List Event))×OV=>[blk b0_ 274 [vS a0.froom,eq v0_0.1],mpo Value.string DNode.O v0_0.1 a0.fnodes,mp Value.string (fun x:Int=>vI x) v788.1 q804.1.2.2.2.1,own Event.K q804.2.1 q804.1.2.2.2.2]++F) (fun q804 H=>?_) (fun H=>?_)
 ·
  obtain ⟨p789,v790⟩:=q804
  refine WP.seq<|rg 2 0<|mv0 rfl rfl<|as0 rfl rfl<|.fin ?_
  obtain rfl:=Gets.out H
  exact rt i2 rfl v788 4 [3,0,1,2] 1 (.cons (res_tmp rfl) .nil)
 refine WP.seq<|rg 4 2<|mv0 rfl rfl<|el H fun t791 h792 H=>cx 3 [1,2,0] cal279 (dag_Dag_All.c h792 (b0_:=b0_) (v0_0:=v0_0)) nofun fun g793 _=>?_
 refine Dv.lenw rfl trivial rfl (mem_at 2 rfl) Tryz.underlying70<|mv0 rfl rfl<|.fin<|WP.block<|wg (sg 4 [0,1,2,3] 0) fun _ _=>?_
 refine lp (fun j_ (p803:Int×(List (ByteArray×Int)))=>member_joined.l0 k t791 j_ p803.1 p803.2) (0,([]:List (ByteArray×Int))) H (fun p803=>[(3,eq v788.1),(8,eq g793.1),(9,vI (t791.length:Int)),(10,vI p803.1)]) (fun p803=>[blk b0_ 274 [vS a0.froom,eq v0_0.1],mpo Value.string DNode.O v0_0.1 a0.fnodes,own Event.K g793.1 t791,mp Value.string (fun x:Int=>vI x) v788.1 p803.2]++F) ?_
 rintro j_ ⟨x794,x795⟩ H
 rcases j_ with _ | j802
 ·
  exact (Gets.no H).elim
 try dsimp only at H
 rw [member_joined.l0] at H
 refine WP.seq<|rg 1 0<|bn0 rfl rfl rfl run_lt<|.fin<|WP.seq<|cd H rfl (fun _ H=>?_) (fun _ H=>?_)
 rotate_left
 ·
  refine WP.exit ?_
  have H:=H.out
  refine ng (sg 4 [0,1,3,2] 0) fun _ _=>?_
  exact jn (((t791.length:Int),x794,decide (x794 < (t791.length:Int)),x795,t791),g793) H
 refine WP.skip<|WP.seq<|WP.block<|WP.seq<|rg 4 12<|gr H fun g797 H=>?_
 have h798:x794.toNat < t791.length:=idx_lt g797
 refine Dv.ixw rfl trivial rfl (mem_at 2 rfl) rfl Tryz.underlying70 Tryz.underlying107 c107 g797.1 g797.2<|Dv.ldws (j:=x794.toNat) (f:=0) rfl trivial rfl (mem_at 2 rfl) h798 Tryz.underlying107 rfl c107 (Nat.le_of_ble_eq_true rfl)<|al rfl trivial zc107 nofun fun b799=>sx 0 rfl trivial rfl rfl cA sz107 rfl rfl rfl nofun ?_
 refine .fin<|WP.seq<|rg 2 0<|fb rfl trivial rfl fa107_5<|ld 0 rfl trivial rfl sc3 rfl rfl<|.fin<|WP.block<|WP.seq<|rg 2 0<|bn0 rfl rfl rfl run_eq<|as0 rfl rfl<|.fin<|cd H rfl (fun _ H=>?_) (fun _ H=>?_)
 ·
  refine rg 4 8<|mv0 rfl rfl<|fb rfl trivial rfl fa107_4<|ld 0 rfl trivial rfl sc9 rfl rfl<|Dv.mup (jj:=4) 1 rfl trivial rfl rfl rfl rfl Tryz.underlying139 (keyOk_str Tryz.underlying9) nofun<|.fin<|rg 2 0<|bn0 rfl rfl rfl run_add<|mv0 rfl rfl<|.fin<|ng (sg 5 [0,1,2,3,4] 1) fun _ _=>?_
  exact bk j802 (w64 (x794 + 1),mput x795 ((t791.getD x794.toNat default).fUser) 1) H
 refine WP.seq<|rg 2 0<|bn0 rfl rfl rfl run_eq<|as0 rfl rfl<|.fin<|cd H rfl (fun _ H=>?_) (fun _ H=>?_)
 rotate_left
 ·
  refine WP.skip<|rg 2 0<|bn0 rfl rfl rfl run_add<|mv0 rfl rfl<|.fin<|ng (sg 5 [0,1,2,3,4] 1) fun _ _=>?_
  exact bk j802 (w64 (x794 + 1),x795) H
 refine rg 4 8<|mv0 rfl rfl<|fb rfl trivial rfl fa107_4<|ld 0 rfl trivial rfl sc9 rfl rfl<|Dv.mdl (jj:=4) rfl trivial rfl rfl rfl Tryz.underlying139 (keyOk_str Tryz.underlying9) nofun<|.fin<|rg 2 0<|bn0 rfl rfl rfl run_add<|mv0 rfl rfl<|.fin<|ng (sg 5 [0,1,2,3,4] 1) fun _ _=>?_
 exact bk j802 (w64 (x794 + 1),mdel x795 ((t791.getD x794.toNat default).fUser)) H
theorem member_Joined.c {k:Nat} {a0:DDag} {a1:ByteArray} {v0_0:OV} {b0_:Nat} {r:Bool} (h:member_Joined.f k a0 a1 = some r):Tr Tryz.prog 189 [eq (.pointer (some ⟨b0_,0,none⟩)),vS a1] [blk b0_ 274 [vS a0.froom,eq v0_0.1],mpo Value.string DNode.O v0_0.1 a0.fnodes] (γ:=Unit) (fun _=>True) (fun g=>vB r) (fun g=>[blk b0_ 274 [vS a0.froom,eq v0_0.1],mpo Value.string DNode.O v0_0.1 a0.fnodes]):=by
 unfold member_Joined.f at h
 refine tb Tryz.func189 Tryz.ntmps189 h fun R0 F H=>?_
 refine WP.seq<|rg 1 0<|as0 rfl rfl<|.fin<|WP.seq<|rg 6 2<|mv0 rfl rfl<|el H fun t805 h806 H=>cx 2 [0,1] cal238 (member_joined.c h806 (b0_:=b0_) (v0_0:=v0_0)) nofun fun g807 _=>?_
 refine mv0 rfl rfl<|Dv.mlv 0 rfl trivial rfl (mem_at 2 rfl) rfl Tryz.underlying139 (keyOk_str Tryz.underlying9) z3 (fun _=>rfl)<|bn0 rfl rfl rfl run_gt<|as0 rfl rfl<|.fin ?_
 cases H.out; exact rt i2 rfl () 3 [2,0,1] 1 (.cons (res_tmp rfl) .nil)
theorem view_View_Joined.c {k:Nat} {a0:VView} {a1:ByteArray} {a2:ByteArray} {v0_0:OV} {b0_:Nat} {r:Bool} (h:view_View_Joined.f k a0 a1 a2 = some r):Tr Tryz.prog 118 [eq (.pointer (some ⟨b0_,0,none⟩)),vS a1,vS a2] [blk b0_ 150 [eq v0_0.1],mpo Value.string DDag.O v0_0.1 a0.fdags] (γ:=Unit) (fun _=>True) (fun g=>vB r) (fun g=>[blk b0_ 150 [eq v0_0.1],mpo Value.string DDag.O v0_0.1 a0.fdags]):=by
 unfold view_View_Joined.f at h
 refine tb Tryz.func118 Tryz.ntmps118 h fun R0 F H=>?_
 refine WP.seq<|rg 1 0<|as0 rfl rfl<|.fin<|WP.seq<|rg 6 4<|mv0 rfl rfl<|mv0 rfl rfl<|el H fun t808 h809 H=>cx 2 [0,1] cal92 (view_View_room.c h809 (b0_:=b0_) (v0_0:=v0_0)) nofun fun v810 _=>?_
 refine mv0 rfl rfl<|vg (DDag.opn 2 rfl) fun g811 h812=>?_
 refine el H fun t813 h814 H=>cll 4 [0,1,2,3] cal189 (Tr.weak (member_Joined.c h814 (b0_:=g811.1) (v0_0:=g811.2)) (.cons (wk_ptr h812) (.cons wk_id .nil))) ?_
 refine as0 rfl rfl<|.fin<|wg (DDag.shut (p:=v810) (m:=t808) (g811.1,g811.2) h812 (pm 4 [0,1,2,3])) fun _ _=>?_
 refine wg (mpl_back0 (view_View_room.r h809) (pm 3 [2,0,1])) fun _ _=>?_
 cases H.out; exact rt i2 rfl () 2 [1,0] 0 (.cons (res_tmp rfl) .nil)
theorem name_Home.c {k:Nat} {a0:ByteArray} {r:ByteArray} (h:name_Home.f k a0 = some r):Pt Tryz.prog 129 [vS a0] (vS r):=by
 unfold name_Home.f at h
 refine pb Tryz.func129 Tryz.ntmps129 h fun R0 F H=>?_
 refine WP.seq<|rg 1 0<|as0 rfl rfl<|.fin<|WP.seq<|WP.seq<|rg 8 0<|mv0 rfl rfl<|el H fun t815 h816 H=>cl rfl cal202 rfl (name_User.c h816)<|un0 rfl rfl (run_not _)<|mv0 rfl rfl ?_
 cases c817:!t815
 ·
  have H:=H.cf c817
  refine sk rfl rfl<|sk rfl rfl<|sk rfl rfl<|pf0 rfl rfl rfl<|.fin<|WP.cond rfl nofun (fun _=>?_)
  refine WP.skip<|WP.seq<|rg 9 0<|mv0 rfl rfl<|el H fun t824 h825 H=>cl rfl cal204 rfl (strings_Cut.c h825)<|mv0 rfl rfl<|ex0 rfl trivial rfl rfl<|ex0 rfl trivial rfl rfl<|ex0 rfl trivial rfl rfl<|as0 rfl rfl<|as0 rfl rfl<|as0 rfl rfl<|.fin<|WP.seq<|rg 2 0<|mv0 rfl rfl<|as0 rfl rfl<|.fin ?_
  cases H.out; exact r0 i2 rfl (.cons (res_tmp rfl) .nil)
 have H:=H.ct c817
 refine mvg rfl rfl rfl<|el H fun t818 h819 H=>Dv.call rfl (gg rfl) cal203 rfl (name_Room.c h819)<|ung rfl rfl rfl (run_not _)<|pt0 rfl rfl rfl<|.fin<|cd H rfl (fun _ H=>?_) (fun _ H=>?_)
 ·
  refine WP.seq<|rg 1 0<|as0 rfl rfl<|.fin ?_
  cases H.out; exact r0 i2 rfl (.cons (res_tmp rfl) .nil)
 refine WP.skip<|WP.seq<|rg 9 0<|mv0 rfl rfl<|el H fun t821 h822 H=>cl rfl cal204 rfl (strings_Cut.c h822)<|mv0 rfl rfl<|ex0 rfl trivial rfl rfl<|ex0 rfl trivial rfl rfl<|ex0 rfl trivial rfl rfl<|as0 rfl rfl<|as0 rfl rfl<|as0 rfl rfl<|.fin<|WP.seq<|rg 2 0<|mv0 rfl rfl<|as0 rfl rfl<|.fin ?_
 cases H.out; exact r0 i2 rfl (.cons (res_tmp rfl) .nil)
theorem slices_DeleteFunc_string_xo.c {k:Nat} {a0:List ByteArray} {a1:(ByteArray→Option Bool)} {X1_:As} {p0_:OV} {r:(List ByteArray)} (h:slices_DeleteFunc_string_xo.f k a0 a1 = some r):Tr Tryz.prog 115 [eq p0_.1,fx_string_bool X1_ a1] [own strK p0_.1 a0,X1_] (γ:=OV) (fun _=>True) (fun g=>eq g.1) (fun g=>[X1_,own strK g.1 r]):=by
 unfold slices_DeleteFunc_string_xo.f at h
 refine tb Tryz.func115 Tryz.ntmps115 h fun R0 F H=>?_
 refine WP.seq<|rg 1 0<|as0 rfl rfl<|.fin<|WP.seq<|rg 4 0<|mv0 rfl rfl<|mv0 rfl rfl<|el H fun t826 h827 H=>cll 2 [0,1] cal187 (slices_IndexFunc_string_xw.c h827 (p0_:=p0_) (X1_:=X1_)) ?_
 refine as0 rfl rfl<|.fin<|WP.seq<|WP.seq<|rg 2 0<|mv0 rfl rfl<|bn0 rfl rfl rfl run_eq<|.fin<|cd H rfl (fun _ H=>?_) (fun _ H=>?_)
 ·
  refine WP.seq<|rg 2 0<|mv0 rfl rfl<|as0 rfl rfl<|.fin ?_
  obtain rfl:=Gets.out H
  exact rt i2 rfl p0_ 2 [1,0] 0 (.cons (res_tmp rfl) .nil)
 refine WP.skip<|WP.seqn H id (fun p829:Int×Int×Bool×(List ByteArray)=>[(0,eq p0_.1),(5,vI p829.1)]) (fun p829:Int×Int×Bool×(List ByteArray)=>[own strK p0_.1 p829.2.2.2,X1_]++F) (fun p829 H=>?_) (fun H=>?_)
 ·
  refine WP.seq<|rg 4 8<|mv0 rfl rfl<|mv0 rfl rfl<|gr H fun g830 H=>vg (st_own_form 0 rfl (List.length_pos_iff.1 (Nat.lt_of_le_of_lt (Nat.zero_le _) g830.2))) fun g831 h832=>?_
  refine Dv.slkm (o':=g831.2.1 + p829.1.toNat * strK.sz) (m':=p829.2.2.2.length - p829.1.toNat) (c':=g831.2.2 - p829.1.toNat) rfl trivial ((show opv _ _ = some (eq p0_.1) from rfl).trans (congrArg (fun z=>some (eq z)) h832.1)) Tryz.underlying23 Tryz.underlying9 c9 (bdE_some rfl g830.1) bdE_none (Nat.le_of_lt g830.2) h832.2 (.inl (Nat.lt_of_lt_of_le g830.2 h832.2)) rfl rfl rfl<|Dv.clrw (jj:=0) (⟨#[]⟩:ByteArray) rfl trivial rfl Tryz.underlying23 z9 rfl rfl (fun u hu=>by simp [Value.cells] at hu; subst hu; rfl) h832.1 rfl g830.2 rfl nofun<|.fin<|WP.seq<|rg 4 4<|mv0 rfl rfl<|mv0 rfl rfl<|gr H fun g833 H=>Dv.slo (jj:=0) rfl trivial rfl rfl Tryz.underlying23 Tryz.underlying9 c9 bdE_none (bdE_some rfl g833.1) (.inl rfl) g833.2.1 g833.2.2 nofun (fun v834=>?_)
  refine as0 rfl rfl<|.fin ?_
  obtain rfl:=Gets.out H
  exact rt i2 rfl v834 2 [1,0] 0 (.cons (res_tmp rfl) .nil)
 refine WP.seq<|rg 3 0<|mv0 rfl rfl<|bn0 rfl rfl rfl run_add<|as0 rfl rfl<|.fin<|WP.block<|wg (sg 2 [0,1] 0) fun _ _=>?_
 refine lp (fun j_ (p847:Int×Int×(List ByteArray))=>slices_DeleteFunc_string_xo.l0 k a1 j_ p847.1 p847.2.1 p847.2.2) (t826,w64 (t826 + 1),a0) H (fun p847=>[(0,eq p0_.1),(1,fx_string_bool X1_ a1),(5,vI p847.1),(6,vI p847.2.1)]) (fun p847=>[own strK p0_.1 p847.2.2,X1_]++F) ?_
 rintro j_ ⟨x835,x836,x837⟩ H
 rcases j_ with _ | j846
 ·
  exact (Gets.no H).elim
 try dsimp only at H
 rw [slices_DeleteFunc_string_xo.l0] at H
 refine WP.seq<|WP.seq<|rg 4 0<|mv0 rfl rfl<|mv0 rfl rfl<|Dv.lenw rfl trivial rfl (mem_at 0 rfl) Tryz.underlying23<|bn0 rfl rfl rfl run_lt<|.fin<|cd H rfl (fun _ H=>?_) (fun _ H=>?_)
 rotate_left
 ·
  refine WP.exit ?_
  have H:=H.out
  exact jn (x835,x836,decide (x836 < (x837.length:Int)),x837) H
 refine WP.skip<|WP.seq<|WP.block<|WP.seq<|rg 5 0<|mv0 rfl rfl<|mv0 rfl rfl<|gr H fun g839 H=>?_
 have h840:x836.toNat < x837.length:=idx_lt g839
 refine Dv.ixw rfl trivial rfl (mem_at 0 rfl) rfl Tryz.underlying23 Tryz.underlying9 c9 g839.1 g839.2<|Dv.ldw (j:=x836.toNat) (f:=0) (p:=vS (x837.getD x836.toNat default)) rfl trivial rfl (mem_at 0 rfl) h840 Tryz.underlying9 rfl rfl<|as0 rfl rfl<|.fin<|WP.seq<|rg 4 0<|mv0 rfl rfl<|mv0 rfl rfl<|el H fun t841 h842 H=>Dv.callfx (ret:=vB t841) (X:=X1_) (F:=[own strK p0_.1 x837]++F) rfl trivial rfl rfl ⟨_,_,h842,rfl,rfl⟩ (perm_to (L:=[own strK p0_.1 x837,X1_]) (F:=F) [1,0] rfl rfl rfl)<|un0 rfl rfl (run_not _)<|.fin<|cd H rfl (fun _ H=>?_) (fun _ H=>?_)
 rotate_left
 ·
  exact WP.skip<|rg 3 0<|mv0 rfl rfl<|bn0 rfl rfl rfl run_add<|as0 rfl rfl<|.fin<|bk j846 (x835,w64 (x836 + 1),x837) H
 refine WP.seq<|rg 5 16<|mv0 rfl rfl<|mv0 rfl rfl<|mv0 rfl rfl<|gr H fun g844 H=>?_
 have h845:x835.toNat < x837.length:=idx_lt g844
 exact Dv.ixw rfl trivial rfl (mem_at 0 rfl) rfl Tryz.underlying23 Tryz.underlying9 c9 g844.1 g844.2<|Dv.stw (j:=x835.toNat) (f:=0) (jj:=0) (x837.getD x836.toNat default) rfl trivial rfl rfl (cells_one (one_eq rfl)) Tryz.underlying9 c9 rfl rfl h845 (Nat.le_of_ble_eq_true rfl) rfl nofun<|.fin<|rg 3 0<|mv0 rfl rfl<|bn0 rfl rfl rfl run_add<|as0 rfl rfl<|.fin<|rg 3 0<|mv0 rfl rfl<|bn0 rfl rfl rfl run_add<|as0 rfl rfl<|.fin<|bk j846 (w64 (x835 + 1),w64 (x836 + 1),x837.set x835.toNat (x837.getD x836.toNat default)) H
theorem slices_Sort_string.c {a0:List ByteArray} {p0_:OV} {r:List ByteArray} (h:slices_Sort_string.f a0 = some r):Tr Tryz.prog 67 [eq p0_.1] [own strK p0_.1 a0] (γ:=Unit) (fun _=>True) (fun g=>tup []) (fun g=>[own strK p0_.1 r]):=by
 unfold slices_Sort_string.f at h
 obtain ⟨h0,h5⟩:=(Gets.of h).grd
 obtain rfl:=Gets.out h5
 exact sort_tr (fun blk off cap ss w=>Go.Proofs.Any.slices_Sort_string Tryz.lays190 blk off cap ss w) (fun q cap w=>Go.Proofs.Any.slices_Sort_string_none Tryz.lays190 q cap w) h0
theorem view_View_Rooms.c {a0:VView} {b0_:Nat} {v0_0:OV} {r:List ByteArray} (h:view_View_Rooms.f a0 = some r):Tr Tryz.prog 205 [eq (.pointer (some ⟨b0_,0,none⟩))] [blk b0_ 150 [eq v0_0.1],mpo Value.string DDag.O v0_0.1 a0.fdags] (γ:=OV) (fun _=>True) (fun g=>eq g.1) (fun g=>[blk b0_ 150 [eq v0_0.1],mpo Value.string DDag.O v0_0.1 a0.fdags,own strK g.1 r]):=by
  unfold view_View_Rooms.f at h
  obtain ⟨h0,h5⟩:=(Gets.of h).grd
  obtain rfl:=Gets.out h5
  clear h h5
  refine Tr.body Tryz.func205 (c:=_) rfl Tryz.ntmps205 (Nat.le_of_ble_eq_true rfl) fun R0 F=>?_
  refine WP.seq<|rg 1 0<|as0 rfl rfl<|.fin<|WP.seq<|rg 1 0<|as0 rfl rfl<|.fin ?_
  refine WP.seqj (β:=List Nat×OV) (fun b=>b.1.Perm (List.range a0.fdags.length)) (fun b=>[(3,eq b.2.1)]) (fun b=>[own strK b.2.1 (selM a0.fdags (fun e=>some e.1) b.1),blk b0_ 150 [eq v0_0.1],mpo Value.string DDag.O v0_0.1 a0.fdags]++F) (fun b hb=>?_) ?_
  rotate_left
  · refine WP.seq<|rg 5 16<|mv0 rfl rfl<|Dv.nilp rfl trivial rfl<|fb rfl trivial rfl fa150_0<|ld 0 rfl trivial rfl sc148 rfl rfl ?_
    refine Dv.gh (l':=fun ps:List OV=>[mp Value.string (fun p:OV=>eq p.1) v0_0.1 (zipK a0.fdags ps),thg DDag.O a0.fdags ps,blk b0_ 150 [eq v0_0.1]]++F) (gh_of (mpo_opn 1 rfl)) (fun ps hps=>?_)
    refine Dv.rgb (jj:=0) rfl trivial rfl rfl Tryz.underlying148 nofun (fun q=>.fin ?_)
    refine WP.gh (l':=fun _:Unit=>[rng Value.string (fun p:OV=>eq p.1) v0_0.1 q.1 (zipK a0.fdags ps) [],thg DDag.O a0.fdags ps,blk b0_ 150 [eq v0_0.1]]++F) (gh_of (ok:=fun _=>True) fun R w k=>⟨(),trivial,k⟩) (fun _ _=>?_)
    refine WP.gh (l':=fun _:Unit=>[own strK nilV.1 [],rng Value.string (fun p:OV=>eq p.1) v0_0.1 q.1 (zipK a0.fdags ps) [],thg DDag.O a0.fdags ps,blk b0_ 150 [eq v0_0.1]]++F) (gh_of (st_nil strK none)) (fun _ _=>?_)
    refine WP.block ?_
    refine WP.weak (E':=(fun b:List Nat×OV=>[(3,eq b.2.1),(9,eq q.1)]) ([],nilV)) (weak_cons rfl (weak_cons rfl weak_nil)) (WP.loop (β:=List Nat×OV) (fun k b=>b.1.length + k = a0.fdags.length) (fun b=>[(3,eq b.2.1),(9,eq q.1)]) (fun b=>[own strK b.2.1 (selM a0.fdags (fun e=>some e.1) b.1),rng Value.string (fun p:OV=>eq p.1) v0_0.1 q.1 (zipK a0.fdags ps) b.1,thg DDag.O a0.fdags ps,blk b0_ 150 [eq v0_0.1]]++F) ?_ (k:=a0.fdags.length) (b:=([],nilV)) (Nat.zero_add _))
    rintro k ⟨is,v⟩ hk
    replace hk:is.length + k = a0.fdags.length:=hk
    refine WP.seq<|rg 2 1<|Dv.rgn (jj:=1) rfl trivial rfl rfl nofun (fun z hz=>?_)
    rcases z with _ | j
    · have hz:is.Perm (List.range (zipK a0.fdags ps).length):=hz
      rw [zipK_len hps.1] at hz
      refine ex0 rfl trivial rfl rfl<|.fin<|WP.seq<|WP.cond rfl nofun (fun _=>WP.exit ?_)
      refine Dn.gh (l':=fun _:Unit=>[own strK v.1 (selM a0.fdags (fun e=>some e.1) is),rng Value.string (fun p:OV=>eq p.1) v0_0.1 q.1 (zipK a0.fdags ps) is,thg DDag.O a0.fdags ps,blk b0_ 150 [eq v0_0.1]]++F) (gh_of (ok:=fun _=>True) fun R w k=>⟨(),trivial,k⟩) (fun _ _=>?_)
      refine Dn.gh (l':=fun _:Unit=>[mp Value.string (fun p:OV=>eq p.1) v0_0.1 (zipK a0.fdags ps),own strK v.1 (selM a0.fdags (fun e=>some e.1) is),thg DDag.O a0.fdags ps,blk b0_ 150 [eq v0_0.1]]++F) (gh_of (st_rge (pm 4 [1,0,2,3]))) (fun _ _=>?_)
      refine Dn.gh (l':=fun _:Unit=>[mpo Value.string DDag.O v0_0.1 a0.fdags,own strK v.1 (selM a0.fdags (fun e=>some e.1) is),blk b0_ 150 [eq v0_0.1]]++F) (gh_of (mpo_shut hps rfl (pm 4 [0,2,1,3]))) (fun _ _=>?_)
      exact Jn.mk (is,v) hz (weak_cons rfl weak_nil) (perm_ton 3 [1,2,0] (by kernel_rfl) rfl rfl)
    have hz:j < (zipK a0.fdags ps).length∧j ∉ is∧is.length < (zipK a0.fdags ps).length:=hz
    obtain ⟨e,p,he,hp,hep⟩:=zipK_get hps hz.1
    have hlt:is.length < a0.fdags.length:=by rw [← zipK_len hps.1]; exact hz.2.2
    have hsl:=Nat.le_trans (selM_len (m:=a0.fdags) (f:=(fun e=>some e.1)) (is:=is)) (Nat.le_of_lt hlt)
    have e1:nxV Value.string (fun p:OV=>eq p.1) (zipK a0.fdags ps) (some j) = tup [vB true,vS e.1,eq p.1]:=by simp only [nxV,hep]
    rw [e1]
    refine ex0 rfl trivial rfl rfl<|.fin<|WP.seq<|WP.cond rfl (fun _=>WP.skip ?_) nofun
    refine WP.gh (l':=fun _:Unit=>[own strK v.1 (selM a0.fdags (fun e=>some e.1) is),rng Value.string (fun p:OV=>eq p.1) v0_0.1 q.1 (zipK a0.fdags ps) (is++[j]),thg DDag.O a0.fdags ps,blk b0_ 150 [eq v0_0.1]]++F) (gh_of (ok:=fun _=>True) fun R w k=>⟨(),trivial,k⟩) (fun _ _=>?_)
    refine WP.block<|WP.seq<|rg 3 0<|Dv.rge 1 rfl trivial rfl rfl hep ?_
    refine ex0 rfl trivial rfl rfl<|as0 rfl rfl<|.fin ?_
    have e6:=selM_some (f:=(fun e=>some e.1)) (is:=is) he rfl
    have hbd:(selM a0.fdags (fun e=>some e.1) is).length + ([e.1]:List ByteArray).length≤9223372036854775807∧((selM a0.fdags (fun e=>some e.1) is).length + ([e.1]:List ByteArray).length) * 16≤140737488355328:=by rw [List.length_singleton]; omega
    refine rg 5 8<|mv0 rfl rfl<|mv0 rfl rfl<|Dv.lit strK ([e.1]:List ByteArray) (css:=[[vS e.1]]) rfl trivial Tryz.underlying23 Tryz.underlying9 c9 z9 rfl (by decide) (by decide) rfl ⟨(cells_one (one_eq rfl)),trivial⟩ rfl rfl rfl<|ap strK 0 ([e.1]:List ByteArray) src_sl Tryz.underlying23 (.inr ⟨_,Tryz.underlying23⟩) inf9 hbd nofun fun v9=>as0 rfl rfl<|.fin ?_
    rw [e6]
    exact Back.mk (k - 1) (is++[j],v9) (by omega) (by show (is++[j]).length + (k - 1) = _; rw [List.length_append,List.length_singleton]; omega) (weak_cons rfl (weak_cons rfl weak_nil)) (List.Perm.refl _)
  obtain ⟨is,v3⟩:=b
  replace hb:is.Perm (List.range a0.fdags.length):=hb
  have hp:=selM_perm (f:=(fun e=>some e.1)) hb
  have hs:slices_Sort_string.f (selM a0.fdags (fun e=>some e.1) is) = some (srtS (a0.fdags.map (·.1))):=by
    have e7:a0.fdags.filterMap (fun e=>some e.1) = a0.fdags.map (·.1):=by rw [← List.filterMap_eq_map]; rfl
    rw [e7] at hp
    unfold slices_Sort_string.f Sp.grd
    rw [if_pos (by rw [hp.length_eq,List.length_map]; omega),srtS_eq hp]
  refine WP.seq<|rg 2 2<|mv0 rfl rfl<|cx 3 [0,1,2] cal67 (slices_Sort_string.c hs (p0_:=v3)) nofun fun _ _=>.fin ?_
  refine WP.seq<|rg 2 0<|mv0 rfl rfl<|as0 rfl rfl<|.fin<|rt i2 rfl v3 3 [1,2,0] 0 (.cons (res_tmp rfl) .nil)
theorem view_View_RoomsOf_1.c {k:Nat} {a0:ByteArray} {cb0_ cd0_:Nat} {cq0_ cv0_0:OV} {ch0_:cq0_.1 = .pointer (some ⟨cd0_,0,none⟩)} {c0:VView} {c1:ByteArray} {r:Bool} (h:view_View_RoomsOf_1.f k a0 c0 c1 = some r):Tr Tryz.prog 206 [vS a0,eq (.pointer (some ⟨cb0_,0,none⟩)),rp [vS c1]] [blk cb0_ 33 [eq cq0_.1],blk cd0_ 150 [eq cv0_0.1],mpo Value.string DDag.O cv0_0.1 c0.fdags] (γ:=Unit) (fun _=>True) (fun g=>vB r) (fun g=>[blk cb0_ 33 [eq cq0_.1],blk cd0_ 150 [eq cv0_0.1],mpo Value.string DDag.O cv0_0.1 c0.fdags]):=by
 unfold view_View_RoomsOf_1.f at h
 refine tb Tryz.func206 Tryz.ntmps206 h fun R0 F H=>?_
 refine WP.seq<|rg 1 0<|as0 rfl rfl<|.fin<|WP.seq<|rg 6 0<|ld 0 rfl trivial rfl sc33 rfl rfl<|mv0 rfl rfl<|ldR rfl trivial rfl sc9 rfl<|el H fun t848 h849 H=>cll 3 [1,2,0] cal118 (Tr.weak (view_View_Joined.c h849 (b0_:=cd0_) (v0_0:=cv0_0)) (.cons (wk_ptr ch0_) (.cons wk_id (.cons wk_id .nil)))) ?_
 refine un0 rfl rfl (run_not _)<|as0 rfl rfl<|.fin ?_
 cases H.out; exact rt i2 rfl () 3 [0,1,2] 0 (.cons (res_tmp rfl) .nil)
theorem view_View_RoomsOf.c {k:Nat} {a0:VView} {a1:ByteArray} {p0_:OV} {r:(List ByteArray)} (h:view_View_RoomsOf.f k a0 a1 = some r):Tr Tryz.prog 130 [eq p0_.1,vS a1] [VView.O p0_ a0] (γ:=OV) (fun _=>True) (fun g=>eq g.1) (fun g=>[VView.O p0_ a0,own strK g.1 r]):=by
 unfold view_View_RoomsOf.f at h
 refine tb Tryz.func130 Tryz.ntmps130 h fun R0 F H=>?_
 refine WP.seq<|rg 3 3<|Dv.box rfl trivial rfl (cells_one one_ov) nofun fun b850=>Dv.box rfl trivial rfl cE nofun fun b851=>as0 rfl rfl<|.fin<|WP.seq<|rg 5 10<|ld 1 rfl trivial rfl sc33 rfl rfl<|vg (VView.opn 2 rfl) fun g852 h853=>?_
 refine el H fun t854 h855 H=>cx 4 [0,1,2,3] cal205 (Tr.weak (view_View_Rooms.c h855 (b0_:=g852.1) (v0_0:=g852.2)) (.cons (wk_ptr h853) .nil)) nofun fun g856 _=>?_
 refine Dv.gh (gh_frzb (E':=[(0,eq p0_.1),(1,vS a1),(2,eq (.pointer (some ⟨b850,0,none⟩))),(3,rp [vS a1]),(4,eq (.slice none 0 0)),(6,eq g856.1)]) (l':=[blk g852.1 150 [eq g852.2.1],mpo Value.string DDag.O g852.2.1 a0.fdags,own strK g856.1 t854,blk b850 33 [eq p0_.1]]++F) 3 rfl (cve_cons rfl cv_id (cve_cons rfl cv_id (cve_cons rfl cv_id (cve_cons rfl cv_eq (cve_cons rfl cv_id (cve_cons rfl cv_id cve_nil)))))) (all2_app (.cons cva_id (.cons cva_id (.cons cva_id (.cons cva_id .nil)))) fun _=>cva_id)) (fun _ _=>?_)
 refine Dv.mkx (Q:=fqQ_string_bool (fun a0_=>view_View_RoomsOf_1.f k a0_ a0 a1)) (L:=[blk b850 33 [eq p0_.1],blk g852.1 150 [eq g852.2.1],mpo Value.string DDag.O g852.2.1 a0.fdags]) cal206 (by rintro _ _ ⟨a0_,r_,h_,rfl,rfl⟩; exact view_View_RoomsOf_1.c h_ (cb0_:=b850) (cq0_:=p0_) (cd0_:=g852.1) (ch0_:=h853) (cv0_0:=g852.2)) rfl trivial rfl rfl<|el H fun t857 h858 H=>cx 4 [2,3,0,1] cal115 (Tr.unpko (A:=[own strK g856.1 t854]) (L:=[blk b850 33 [eq p0_.1],blk g852.1 150 [eq g852.2.1],mpo Value.string DDag.O g852.2.1 a0.fdags]) (B:=fun g859:OV=>[own strK g859.1 t857]) (slices_DeleteFunc_string_xo.c h858 (p0_:=g856) (X1_:=(pk [blk b850 33 [eq p0_.1],blk g852.1 150 [eq g852.2.1],mpo Value.string DDag.O g852.2.1 a0.fdags])))) nofun fun g859 _=>?_
 refine as0 rfl rfl<|.fin<|wg (VView.shut (p:=p0_) (m:=a0) (g852.1,g852.2) h853 (pm 4 [1,2,0,3])) fun _ _=>?_
 obtain rfl:=Gets.out H
 exact rt i2 rfl g859 3 [1,0,2] 1 (.cons (res_tmp rfl) .nil)
theorem receipt_Table_Get.c {a0:RTab} {a1:RKey} {p0_:OV} {r:Pos×Bool} (h:receipt_Table_Get.f a0 a1 = some r):Tr Tryz.prog 207 [eq p0_.1,agg (RKey.enc a1)] [RTab.O p0_ a0] (γ:=Unit) (fun _=>True) (fun g=>tup [agg (Pos.enc r.1),vB r.2]) (fun g=>[RTab.O p0_ a0]):=by
 unfold receipt_Table_Get.f at h
 refine tb Tryz.func207 Tryz.ntmps207 h fun R0 F H=>?_
 refine WP.seq<|rg 3 3<|Dv.box rfl trivial rfl cA nofun fun b860=>al rfl trivial zc49 nofun fun b861=>as0 rfl rfl<|.fin<|WP.seq<|wg (RTab.opn 2 rfl) fun g862 h863=>?_
 refine dg Tryz.checked.mixed 12 1536<|mv0 rfl rfl<|Dv.nilpp h863 rfl trivial rfl<|fp h863 rfl trivial rfl fa203_0<|ld 0 rfl trivial rfl sc201 rfl rfl<|lds 3 rfl trivial rfl sg47 rfl rfl<|Dv.mlkq (⟨0,(⟨#[]⟩:ByteArray)⟩:Pos) rfl trivial rfl (mem_at 1 rfl) rfl (RKey.kq a1) Tryz.underlying201 kok47 z49 (fun _=>⟨_,rfl,Cs.eqz rfl⟩)<|mv0 rfl rfl<|ex0 rfl trivial rfl rfl<|ex0 rfl trivial rfl rfl<|al rfl trivial zc49 (fun _=>(pend_in (fun _=>trivial) (pend_in (fun _=>trivial) (pend_in (fun _=>trivial) (pend_in (fun _=>(mem_at 2 rfl)) (pend_in (fun _=>(mem_at 4 rfl)) (pend_in (fun _=>(mem_at 1 rfl)) (pend_in (fun _=>trivial) (pend_in (fun _=>trivial) (pend_in (fun _=>trivial) pend_nil)))))))))) fun b864=>sx 0 rfl trivial rfl rfl cA sz49 rfl rfl rfl (fun _=>(pend_in (fun _=>trivial) (pend_by (by kernel_rfl) (pend_by (by kernel_rfl) (pend_by (by kernel_rfl) (pend_by (by kernel_rfl) (pend_by (by kernel_rfl) (pend_by (by kernel_rfl) (pend_by (by kernel_rfl) (pend_by (by kernel_rfl) pend_nil)))))))))) ?_
 refine as0 rfl rfl<|.fin<|WP.seq<|rg 4 4<|lds 0 rfl trivial rfl sg49 rfl rfl<|mv0 rfl rfl<|sx 3 rfl trivial rfl rfl cA sz49 rfl rfl rfl nofun ?_
 refine as0 rfl rfl<|.fin<|wg (RTab.shut (p:=p0_) (m:=a0) (g862.1,g862.2) h863 (pm 5 [1,2,0,3,4])) fun _ _=>?_
 cases H.out; exact rt i2 rfl () 4 [1,2,3,0] 3 (.cons (res_cells rfl Tryz.underlying49 rfl c49 (mem_at 2 rfl) rfl) (.cons (res_tmp rfl) .nil))
theorem server_Server_old.c {k:Nat} {a0:SSelTicStaAllComSen} {a1:Edu} {p0_:OV} {r:Int} (h:server_Server_old.f k a0 a1 = some r):Tr Tryz.prog 131 [eq p0_.1,agg (Edu.enc a1)] [SSelTicStaAllComSen.O p0_ a0] (γ:=Unit) (fun _=>True) (fun g=>vI r) (fun g=>[SSelTicStaAllComSen.O p0_ a0]):=by
 unfold server_Server_old.f at h
 refine tb Tryz.func131 Tryz.ntmps131 h fun R0 F H=>?_
 refine WP.seq<|rg 2 1<|Dv.box rfl trivial rfl cA nofun fun b865=>as0 rfl rfl<|.fin<|WP.seq<|WP.seq<|wg (SSelTicStaAllComSen.opn 1 rfl) fun g866 h867=>?_
 refine wg (VView.opn 3 rfl) fun g868 h869=>?_
 refine dg Tryz.checked.mixed 13 0<|mv0 rfl rfl<|Dv.nilpp h867 rfl trivial rfl<|fp h867 rfl trivial rfl fa102_3<|fb rfl trivial rfl fa99_0<|ld 2 rfl trivial rfl sc33 rfl rfl<|fb rfl trivial rfl fa80_1<|ld 11 rfl trivial rfl sc9 rfl rfl<|fb rfl trivial rfl fa80_3<|ld 11 rfl trivial rfl sc9 rfl rfl<|fb rfl trivial rfl fa80_4<|ld 11 rfl trivial rfl sc9 rfl rfl<|el H fun t870 h871 H=>cll 12 [0,1,2,3,4,5,6,7,8,9,10,11] cal157 (Tr.weak (view_View_Fits.c h871 (b0_:=g868.1) (v0_0:=g868.2)) (.cons (wk_ptr h869) (.cons wk_id (.cons wk_id (.cons wk_id .nil))))) ?_
 refine as0 rfl rfl<|.fin<|WP.seq<|rg 2 0<|mv0 rfl rfl<|bn0 rfl rfl rfl run_ne<|.fin<|cd H rfl (fun _ H=>?_) (fun _ H=>?_)
 ·
  refine WP.seq<|rg 2 0<|mv0 rfl rfl<|as0 rfl rfl<|.fin<|wg (VView.shut (p:=g866.2.2.2.1) (m:=a0.fall.fView) (g868.1,g868.2) h869 (pm 12 [0,1,2,3,4,5,6,7,8,9,10,11])) fun _ _=>?_
  refine wg (SSelTicStaAllComSen.shut (p:=p0_) (m:=a0) (g866.1,g866.2.1,g866.2.2.1,g866.2.2.2.1,g866.2.2.2.2.1,g866.2.2.2.2.2.1,g866.2.2.2.2.2.2.1,g866.2.2.2.2.2.2.2.1,g866.2.2.2.2.2.2.2.2.1,g866.2.2.2.2.2.2.2.2.2) h867 (pm 11 [1,2,3,0,4,5,6,7,8,9,10])) fun _ _=>?_
  cases H.out; exact rt i2 rfl () 2 [1,0] 1 (.cons (res_tmp rfl) .nil)
 refine WP.skip<|WP.seq<|dg Tryz.checked.mixed 16 24576<|mv0 rfl rfl<|Dv.nilpp h867 rfl trivial rfl<|fp h867 rfl trivial rfl fa102_3<|fb rfl trivial rfl fa99_0<|ld 2 rfl trivial rfl sc33 rfl rfl<|fb rfl trivial rfl fa80_1<|ld 11 rfl trivial rfl sc9 rfl rfl<|fb rfl trivial rfl fa80_3<|ld 11 rfl trivial rfl sc9 rfl rfl<|el H fun t873 h874 H=>cll 12 [0,1,2,3,4,5,6,7,8,9,10,11] cal94 (Tr.weak (view_View_Position.c h874 (b0_:=g868.1) (v0_0:=g868.2)) (.cons (wk_ptr h869) (.cons wk_id (.cons wk_id .nil)))) ?_
 refine mv0 rfl rfl<|ex0 rfl trivial rfl rfl<|ex0 rfl trivial rfl rfl<|al rfl trivial zc49 (fun _=>(pend_in (fun _=>trivial) (pend_in (fun _=>trivial) (pend_in (fun _=>trivial) (pend_in (fun b875=>perm_exs (L:=[blk b875 49 [vI 0,vS (⟨#[]⟩:ByteArray)],blk g868.1 150 [eq g868.2.1],mpo Value.string DDag.O g868.2.1 a0.fall.fView.fdags,blk g866.1 102 [vS a0.fself,eq g866.2.1.1,eq g866.2.2.1.1,eq g866.2.2.2.1.1,eq g866.2.2.2.2.1.1,eq g866.2.2.2.2.2.1.1,eq g866.2.2.2.2.2.2.1.1,eq g866.2.2.2.2.2.2.2.1.1,eq g866.2.2.2.2.2.2.2.2.1.1,eq g866.2.2.2.2.2.2.2.2.2.1],Ctr.O g866.2.1 a0.ftick,Ctr.O g866.2.2.1 a0.fstamps,Mks.O g866.2.2.2.2.1 a0.fall.fMarks,TTab.O g866.2.2.2.2.2.1 a0.fall.fTyping,PTab.O g866.2.2.2.2.2.2.1 a0.fall.fPresence,DLog.O g866.2.2.2.2.2.2.2.1 a0.fall.fLog,SMosOf.O g866.2.2.2.2.2.2.2.2.1 a0.fcome,mpo Value.string SSnd.O g866.2.2.2.2.2.2.2.2.2.1 a0.fsenders,blk b865 80 (Edu.enc a1)]) (F:=F) ([blk b875 49 [vI 0,vS (⟨#[]⟩:ByteArray)],blk g866.1 102 [vS a0.fself,eq g866.2.1.1,eq g866.2.2.1.1,eq g866.2.2.2.1.1,eq g866.2.2.2.2.1.1,eq g866.2.2.2.2.2.1.1,eq g866.2.2.2.2.2.2.1.1,eq g866.2.2.2.2.2.2.2.1.1,eq g866.2.2.2.2.2.2.2.2.1.1,eq g866.2.2.2.2.2.2.2.2.2.1],Ctr.O g866.2.1 a0.ftick,Ctr.O g866.2.2.1 a0.fstamps,Mks.O g866.2.2.2.2.1 a0.fall.fMarks,TTab.O g866.2.2.2.2.2.1 a0.fall.fTyping,PTab.O g866.2.2.2.2.2.2.1 a0.fall.fPresence,DLog.O g866.2.2.2.2.2.2.2.1 a0.fall.fLog,SMosOf.O g866.2.2.2.2.2.2.2.2.1 a0.fcome,mpo Value.string SSnd.O g866.2.2.2.2.2.2.2.2.2.1 a0.fsenders,blk b865 80 (Edu.enc a1)]++F) [1,2,0,3,4,5,6,7,8,9,10,11,12] (by kernel_rfl) rfl rfl) (pend_in (fun _=>(mem_at 12 rfl)) (pend_in (fun _=>trivial) (pend_in (fun _=>(mem_at 12 rfl)) (pend_in (fun _=>trivial) (pend_in (fun _=>(mem_at 3 rfl)) (pend_in (fun _=>trivial) (pend_in (fun _=>trivial) (pend_in (fun _=>trivial) (pend_in (fun _=>trivial) pend_nil)))))))))))))) fun b875=>sx 0 rfl trivial rfl rfl cA sz49 rfl rfl rfl (fun _=>(pend_in (fun _=>trivial) (pend_by (by kernel_rfl) (pend_by (by kernel_rfl) (pend_by (by kernel_rfl) (pend_by (by kernel_rfl) (pend_by (by kernel_rfl) (pend_by (by kernel_rfl) (pend_by (by kernel_rfl) (pend_by (by kernel_rfl) (pend_by (by kernel_rfl) (pend_by (by kernel_rfl) (pend_by (by kernel_rfl) (pend_by (by kernel_rfl) pend_nil)))))))))))))) ?_
 refine as0 rfl rfl<|.fin<|WP.seq<|rg 2 1<|el H fun t876 h877 H=>cx 13 [0,1,2,3,4,5,6,7,8,9,10,11,12] cal59 (receipt_New.c h877) nofun fun g878 _=>?_
 refine as0 rfl rfl<|.fin<|WP.seq<|WP.seq<|wg (Mks.opn 7 rfl) fun g879 h880=>?_
 refine WP.dgf (kf:=14) Tryz.checked.mixed [(0,false),(1,false),(2,false),(3,false),(4,false),(5,false),(6,false),(7,false),(8,false),(9,false),(10,true),(11,false),(12,false),(13,false)] [(15,true),(16,false)] rfl (by kernel_rfl)<|mv0 rfl rfl<|Dv.nilpp h867 rfl trivial rfl<|fp h867 rfl trivial rfl fa102_3<|fb rfl trivial rfl fa99_1<|ld 7 rfl trivial rfl sc88 rfl rfl<|Dv.nilpp h880 rfl trivial rfl<|fp h880 rfl trivial rfl fa123_0<|ld 0 rfl trivial rfl sc120 rfl rfl<|lds 15 rfl trivial rfl sg80 rfl rfl<|el H fun t881 h882 H=>cl rfl cal98 rfl (marks_Of.c h882)<|Dv.float ?_ (fun hk_=>?_)
 ·
  refine up_al rfl trivial zc49 (all1 (fun _=>trivial) (all1 (fun _=>mem_at 16 rfl) (all1 (fun _=>mem_at 1 rfl) (all1 (fun _=>trivial) (all1 (fun _=>trivial) (all1 (fun _=>mem_at 8 rfl) (all1 (fun _=>trivial) (all1 (fun _=>trivial) (all1 (fun _=>trivial) (all1 (fun _=>trivial) all0)))))))))) (fun b883=>?_)
  refine el H fun t884 h885 H=>cx 17 [2,0,1,3,4,5,6,7,8,9,10,11,12,13,14,15,16] cal207 (receipt_Table_Get.c h885 (p0_:=g879.2.1)) pC fun _ _=>?_
  refine mv0 rfl rfl<|ex0 rfl trivial rfl rfl<|ex0 rfl trivial rfl rfl<|sx 1 rfl trivial rfl rfl cA sz49 rfl rfl rfl (fun _=>(pend_in (fun _=>trivial) (pend_by (by kernel_rfl) (pend_by (by kernel_rfl) (pend_by (by kernel_rfl) (pend_by (by kernel_rfl) (pend_by (by kernel_rfl) (pend_by (by kernel_rfl) (pend_by (by kernel_rfl) (pend_by (by kernel_rfl) (pend_by (by kernel_rfl) (pend_by (by kernel_rfl) (pend_by (by kernel_rfl) (pend_by (by kernel_rfl) pend_nil)))))))))))))) ?_
  refine as0 rfl rfl<|.fin<|WP.seq<|rg 1 0<|mv0 rfl rfl<|.fin<|cd H rfl (fun _ H=>?_) (fun _ H=>?_)
  rotate_left
  ·
   refine WP.skip<|WP.seq<|WP.seq<|dg Tryz.checked.mixed 6 16<|mv0 rfl rfl<|lds 16 rfl trivial rfl sg80 rfl rfl<|el H fun t896 h897 H=>cl rfl cal98 rfl (marks_Of.c h897)<|lds 5 rfl trivial rfl sg49 rfl rfl<|el H fun t898 h899 H=>cx 17 [4,0,1,2,3,5,6,7,8,9,10,11,12,13,14,15,16] cal159 (receipt_Table_Put.c h899 (p0_:=g878)) pC fun _ _=>?_
   refine un0 rfl rfl (run_not _)<|.fin<|cd H rfl (fun _ H=>?_) (fun _ H=>?_)
   ·
    refine WP.seq<|rg 1 0<|as0 rfl rfl<|.fin<|wg (VView.shut (p:=g866.2.2.2.1) (m:=a0.fall.fView) (g868.1,g868.2) h869 (pm 17 [6,7,0,1,2,3,4,5,8,9,10,11,12,13,14,15,16])) fun _ _=>?_
    refine wg (Mks.shut (p:=g866.2.2.2.2.1) (m:=a0.fall.fMarks) (g879.1,g879.2.1,g879.2.2) h880 (pm 16 [4,2,5,0,1,3,6,7,8,9,10,11,12,13,14,15])) fun _ _=>?_
    refine wg (SSelTicStaAllComSen.shut (p:=p0_) (m:=a0) (g866.1,g866.2.1,g866.2.2.1,g866.2.2.2.1,g866.2.2.2.2.1,g866.2.2.2.2.2.1,g866.2.2.2.2.2.2.1,g866.2.2.2.2.2.2.2.1,g866.2.2.2.2.2.2.2.2.1,g866.2.2.2.2.2.2.2.2.2) h867 (pm 14 [5,6,7,1,0,8,9,10,11,12,2,3,4,13])) fun _ _=>?_
    cases H.out; exact rt i2 rfl () 5 [1,2,3,4,0] 4 (.cons (res_tmp rfl) .nil)
   refine WP.skip<|WP.seq<|rg 1 0<|as0 rfl rfl<|.fin<|wg (VView.shut (p:=g866.2.2.2.1) (m:=a0.fall.fView) (g868.1,g868.2) h869 (pm 17 [6,7,0,1,2,3,4,5,8,9,10,11,12,13,14,15,16])) fun _ _=>?_
   refine wg (Mks.shut (p:=g866.2.2.2.2.1) (m:=a0.fall.fMarks) (g879.1,g879.2.1,g879.2.2) h880 (pm 16 [4,2,5,0,1,3,6,7,8,9,10,11,12,13,14,15])) fun _ _=>?_
   refine wg (SSelTicStaAllComSen.shut (p:=p0_) (m:=a0) (g866.1,g866.2.1,g866.2.2.1,g866.2.2.2.1,g866.2.2.2.2.1,g866.2.2.2.2.2.1,g866.2.2.2.2.2.2.1,g866.2.2.2.2.2.2.2.1,g866.2.2.2.2.2.2.2.2.1,g866.2.2.2.2.2.2.2.2.2) h867 (pm 14 [5,6,7,1,0,8,9,10,11,12,2,3,4,13])) fun _ _=>?_
   cases H.out; exact rt i2 rfl () 5 [1,2,3,4,0] 4 (.cons (res_tmp rfl) .nil)
  refine dg Tryz.checked.mixed 5 16<|mv0 rfl rfl<|lds 16 rfl trivial rfl sg80 rfl rfl<|el H fun t887 h888 H=>cl rfl cal98 rfl (marks_Of.c h888)<|lds 1 rfl trivial rfl sg49 rfl rfl<|el H fun t889 h890 H=>cx 17 [4,0,1,2,3,5,6,7,8,9,10,11,12,13,14,15,16] cal159 (receipt_Table_Put.c h890 (p0_:=g878)) pC fun _ _=>?_
  refine .fin<|WP.seq<|WP.seq<|dg Tryz.checked.mixed 6 16<|mv0 rfl rfl<|lds 16 rfl trivial rfl sg80 rfl rfl<|el H fun t891 h892 H=>cl rfl cal98 rfl (marks_Of.c h892)<|lds 5 rfl trivial rfl sg49 rfl rfl<|el H fun t893 h894 H=>cx 17 [0,1,2,3,4,5,6,7,8,9,10,11,12,13,14,15,16] cal159 (receipt_Table_Put.c h894 (p0_:=g878)) pC fun _ _=>?_
  refine un0 rfl rfl (run_not _)<|.fin<|cd H rfl (fun _ H=>?_) (fun _ H=>?_)
  ·
   refine WP.seq<|rg 1 0<|as0 rfl rfl<|.fin<|wg (VView.shut (p:=g866.2.2.2.1) (m:=a0.fall.fView) (g868.1,g868.2) h869 (pm 17 [6,7,0,1,2,3,4,5,8,9,10,11,12,13,14,15,16])) fun _ _=>?_
   refine wg (Mks.shut (p:=g866.2.2.2.2.1) (m:=a0.fall.fMarks) (g879.1,g879.2.1,g879.2.2) h880 (pm 16 [4,2,5,0,1,3,6,7,8,9,10,11,12,13,14,15])) fun _ _=>?_
   refine wg (SSelTicStaAllComSen.shut (p:=p0_) (m:=a0) (g866.1,g866.2.1,g866.2.2.1,g866.2.2.2.1,g866.2.2.2.2.1,g866.2.2.2.2.2.1,g866.2.2.2.2.2.2.1,g866.2.2.2.2.2.2.2.1,g866.2.2.2.2.2.2.2.2.1,g866.2.2.2.2.2.2.2.2.2) h867 (pm 14 [5,6,7,1,0,8,9,10,11,12,2,3,4,13])) fun _ _=>?_
   cases H.out; exact rt i2 rfl () 5 [1,2,3,4,0] 4 (.cons (res_tmp rfl) .nil)
  refine WP.skip<|WP.seq<|rg 1 0<|as0 rfl rfl<|.fin<|wg (VView.shut (p:=g866.2.2.2.1) (m:=a0.fall.fView) (g868.1,g868.2) h869 (pm 17 [6,7,0,1,2,3,4,5,8,9,10,11,12,13,14,15,16])) fun _ _=>?_
  refine wg (Mks.shut (p:=g866.2.2.2.2.1) (m:=a0.fall.fMarks) (g879.1,g879.2.1,g879.2.2) h880 (pm 16 [4,2,5,0,1,3,6,7,8,9,10,11,12,13,14,15])) fun _ _=>?_
  refine wg (SSelTicStaAllComSen.shut (p:=p0_) (m:=a0) (g866.1,g866.2.1,g866.2.2.1,g866.2.2.2.1,g866.2.2.2.2.1,g866.2.2.2.2.2.1,g866.2.2.2.2.2.2.1,g866.2.2.2.2.2.2.2.1,g866.2.2.2.2.2.2.2.2.1,g866.2.2.2.2.2.2.2.2.2) h867 (pm 14 [5,6,7,1,0,8,9,10,11,12,2,3,4,13])) fun _ _=>?_
  cases H.out; exact rt i2 rfl () 5 [1,2,3,4,0] 4 (.cons (res_tmp rfl) .nil)
 refine el H fun t883 h884 H=>cx 16 [1,0,2,3,4,5,6,7,8,9,10,11,12,13,14,15] cal207 (receipt_Table_Get.c h884 (p0_:=g879.2.1)) pC fun _ _=>?_
 refine mv0 rfl rfl<|ex0 rfl trivial rfl rfl<|ex0 rfl trivial rfl rfl<|.fin<|up_al rfl trivial zc49 (all1 (fun _=>trivial) (all1 (fun _=>trivial) (all1 (fun _=>trivial) (allp (by kernel_rfl) (allp (by kernel_rfl) (allp (by kernel_rfl) (allp (by kernel_rfl) (allp (by kernel_rfl) (allp (by kernel_rfl) (allp (by kernel_rfl) (allp (by kernel_rfl) (allp (by kernel_rfl) (allp (by kernel_rfl) all0))))))))))))) (fun b885=>?_)
 refine sx 0 rfl trivial rfl rfl cA sz49 rfl rfl rfl (fun _=>(pend_in (fun _=>trivial) (pend_by (by kernel_rfl) (pend_by (by kernel_rfl) (pend_by (by kernel_rfl) (pend_by (by kernel_rfl) (pend_by (by kernel_rfl) (pend_by (by kernel_rfl) (pend_by (by kernel_rfl) (pend_by (by kernel_rfl) (pend_by (by kernel_rfl) (pend_by (by kernel_rfl) (pend_by (by kernel_rfl) (pend_by (by kernel_rfl) pend_nil)))))))))))))) ?_
 refine as0 rfl rfl<|.fin<|WP.seq<|rg 1 0<|mv0 rfl rfl<|.fin<|cd H rfl (fun _ H=>?_) (fun _ H=>?_)
 rotate_left
 ·
  refine WP.skip<|WP.seq<|WP.seq<|dg Tryz.checked.mixed 6 16<|mv0 rfl rfl<|lds 16 rfl trivial rfl sg80 rfl rfl<|el H fun t896 h897 H=>cl rfl cal98 rfl (marks_Of.c h897)<|lds 5 rfl trivial rfl sg49 rfl rfl<|el H fun t898 h899 H=>cx 17 [4,0,1,2,3,5,6,7,8,9,10,11,12,13,14,15,16] cal159 (receipt_Table_Put.c h899 (p0_:=g878)) pC fun _ _=>?_
  refine un0 rfl rfl (run_not _)<|.fin<|cd H rfl (fun _ H=>?_) (fun _ H=>?_)
  ·
   refine WP.seq<|rg 1 0<|as0 rfl rfl<|.fin<|wg (VView.shut (p:=g866.2.2.2.1) (m:=a0.fall.fView) (g868.1,g868.2) h869 (pm 17 [6,7,0,1,2,3,4,5,8,9,10,11,12,13,14,15,16])) fun _ _=>?_
   refine wg (Mks.shut (p:=g866.2.2.2.2.1) (m:=a0.fall.fMarks) (g879.1,g879.2.1,g879.2.2) h880 (pm 16 [4,3,5,0,1,2,6,7,8,9,10,11,12,13,14,15])) fun _ _=>?_
   refine wg (SSelTicStaAllComSen.shut (p:=p0_) (m:=a0) (g866.1,g866.2.1,g866.2.2.1,g866.2.2.2.1,g866.2.2.2.2.1,g866.2.2.2.2.2.1,g866.2.2.2.2.2.2.1,g866.2.2.2.2.2.2.2.1,g866.2.2.2.2.2.2.2.2.1,g866.2.2.2.2.2.2.2.2.2) h867 (pm 14 [5,6,7,1,0,8,9,10,11,12,2,3,4,13])) fun _ _=>?_
   cases H.out; exact rt i2 rfl () 5 [1,2,3,4,0] 4 (.cons (res_tmp rfl) .nil)
  refine WP.skip<|WP.seq<|rg 1 0<|as0 rfl rfl<|.fin<|wg (VView.shut (p:=g866.2.2.2.1) (m:=a0.fall.fView) (g868.1,g868.2) h869 (pm 17 [6,7,0,1,2,3,4,5,8,9,10,11,12,13,14,15,16])) fun _ _=>?_
  refine wg (Mks.shut (p:=g866.2.2.2.2.1) (m:=a0.fall.fMarks) (g879.1,g879.2.1,g879.2.2) h880 (pm 16 [4,3,5,0,1,2,6,7,8,9,10,11,12,13,14,15])) fun _ _=>?_
  refine wg (SSelTicStaAllComSen.shut (p:=p0_) (m:=a0) (g866.1,g866.2.1,g866.2.2.1,g866.2.2.2.1,g866.2.2.2.2.1,g866.2.2.2.2.2.1,g866.2.2.2.2.2.2.1,g866.2.2.2.2.2.2.2.1,g866.2.2.2.2.2.2.2.2.1,g866.2.2.2.2.2.2.2.2.2) h867 (pm 14 [5,6,7,1,0,8,9,10,11,12,2,3,4,13])) fun _ _=>?_
  cases H.out; exact rt i2 rfl () 5 [1,2,3,4,0] 4 (.cons (res_tmp rfl) .nil)
 refine dg Tryz.checked.mixed 5 16<|mv0 rfl rfl<|lds 16 rfl trivial rfl sg80 rfl rfl<|el H fun t887 h888 H=>cl rfl cal98 rfl (marks_Of.c h888)<|lds 0 rfl trivial rfl sg49 rfl rfl<|el H fun t889 h890 H=>cx 17 [4,0,1,2,3,5,6,7,8,9,10,11,12,13,14,15,16] cal159 (receipt_Table_Put.c h890 (p0_:=g878)) pC fun _ _=>?_
 refine .fin<|WP.seq<|WP.seq<|dg Tryz.checked.mixed 6 16<|mv0 rfl rfl<|lds 16 rfl trivial rfl sg80 rfl rfl<|el H fun t891 h892 H=>cl rfl cal98 rfl (marks_Of.c h892)<|lds 5 rfl trivial rfl sg49 rfl rfl<|el H fun t893 h894 H=>cx 17 [0,1,2,3,4,5,6,7,8,9,10,11,12,13,14,15,16] cal159 (receipt_Table_Put.c h894 (p0_:=g878)) pC fun _ _=>?_
 refine un0 rfl rfl (run_not _)<|.fin<|cd H rfl (fun _ H=>?_) (fun _ H=>?_)
 ·
  refine WP.seq<|rg 1 0<|as0 rfl rfl<|.fin<|wg (VView.shut (p:=g866.2.2.2.1) (m:=a0.fall.fView) (g868.1,g868.2) h869 (pm 17 [6,7,0,1,2,3,4,5,8,9,10,11,12,13,14,15,16])) fun _ _=>?_
  refine wg (Mks.shut (p:=g866.2.2.2.2.1) (m:=a0.fall.fMarks) (g879.1,g879.2.1,g879.2.2) h880 (pm 16 [4,3,5,0,1,2,6,7,8,9,10,11,12,13,14,15])) fun _ _=>?_
  refine wg (SSelTicStaAllComSen.shut (p:=p0_) (m:=a0) (g866.1,g866.2.1,g866.2.2.1,g866.2.2.2.1,g866.2.2.2.2.1,g866.2.2.2.2.2.1,g866.2.2.2.2.2.2.1,g866.2.2.2.2.2.2.2.1,g866.2.2.2.2.2.2.2.2.1,g866.2.2.2.2.2.2.2.2.2) h867 (pm 14 [5,6,7,1,0,8,9,10,11,12,2,3,4,13])) fun _ _=>?_
  cases H.out; exact rt i2 rfl () 5 [1,2,3,4,0] 4 (.cons (res_tmp rfl) .nil)
 refine WP.skip<|WP.seq<|rg 1 0<|as0 rfl rfl<|.fin<|wg (VView.shut (p:=g866.2.2.2.1) (m:=a0.fall.fView) (g868.1,g868.2) h869 (pm 17 [6,7,0,1,2,3,4,5,8,9,10,11,12,13,14,15,16])) fun _ _=>?_
 refine wg (Mks.shut (p:=g866.2.2.2.2.1) (m:=a0.fall.fMarks) (g879.1,g879.2.1,g879.2.2) h880 (pm 16 [4,3,5,0,1,2,6,7,8,9,10,11,12,13,14,15])) fun _ _=>?_
 refine wg (SSelTicStaAllComSen.shut (p:=p0_) (m:=a0) (g866.1,g866.2.1,g866.2.2.1,g866.2.2.2.1,g866.2.2.2.2.1,g866.2.2.2.2.2.1,g866.2.2.2.2.2.2.1,g866.2.2.2.2.2.2.2.1,g866.2.2.2.2.2.2.2.2.1,g866.2.2.2.2.2.2.2.2.2) h867 (pm 14 [5,6,7,1,0,8,9,10,11,12,2,3,4,13])) fun _ _=>?_
 cases H.out; exact rt i2 rfl () 5 [1,2,3,4,0] 4 (.cons (res_tmp rfl) .nil)
theorem clock_Counter_Most.c {a0:Ctr} {b0_:Nat} {r:Int} (h:clock_Counter_Most.f a0 = some r):Tr Tryz.prog 132 [eq (.pointer (some ⟨b0_,0,none⟩))] [blk b0_ 137 [vI a0.fn.fv,vI a0.fmost]] (γ:=Unit) (fun _=>True) (fun g=>vI r) (fun g=>[blk b0_ 137 [vI a0.fn.fv,vI a0.fmost]]):=by
 unfold clock_Counter_Most.f at h
 refine tb Tryz.func132 Tryz.ntmps132 h fun R0 F H=>?_
 refine WP.seq<|rg 1 0<|as0 rfl rfl<|.fin<|WP.seq<|rg 5 0<|mv0 rfl rfl<|Dv.nilp rfl trivial rfl<|fb rfl trivial rfl fa137_1<|ld 0 rfl trivial rfl sc2 rfl rfl<|as0 rfl rfl<|.fin ?_
 cases H.out; exact rt i2 rfl () 1 [0] 0 (.cons (res_tmp rfl) .nil)
theorem delta_Log_Room.c {a0:DLog} {p0_:OV} {r:Int} (h:delta_Log_Room.f a0 = some r):Tr Tryz.prog 133 [eq p0_.1] [DLog.O p0_ a0] (γ:=Unit) (fun _=>True) (fun g=>vI r) (fun g=>[DLog.O p0_ a0]):=by
 unfold delta_Log_Room.f at h
 refine tb Tryz.func133 Tryz.ntmps133 h fun R0 F H=>?_
 refine WP.seq<|rg 1 0<|as0 rfl rfl<|.fin<|WP.seq<|wg (DLog.opn 0 rfl) fun g901 h902=>?_
 refine wg (Ctr.opn 1 rfl) fun g903 h904=>?_
 refine dg Tryz.checked.mixed 12 0<|mv0 rfl rfl<|Dv.nilpp h902 rfl trivial rfl<|fp h902 rfl trivial rfl fa141_0<|ld 1 rfl trivial rfl sc82 rfl rfl<|el H fun t905 h906 H=>cll 4 [0,1,2,3] cal132 (Tr.weak (clock_Counter_Most.c h906 (b0_:=g903)) (.cons (wk_ptr h904) .nil)) ?_
 refine mv0 rfl rfl<|Dv.nilpp h902 rfl trivial rfl<|fp h902 rfl trivial rfl fa141_0<|ld 1 rfl trivial rfl sc82 rfl rfl<|el H fun t907 h908 H=>cll 4 [0,1,2,3] cal35 (Tr.weak (clock_Counter_At.c h908 (b0_:=g903)) (.cons (wk_ptr h904) .nil)) ?_
 refine bn0 rfl rfl rfl run_sub<|as0 rfl rfl<|.fin<|wg (Ctr.shut (p:=g901.2.1) (m:=a0.fat) g903 h904 (pm 4 [0,1,2,3])) fun _ _=>?_
 refine wg (DLog.shut (p:=p0_) (m:=a0) (g901.1,g901.2.1,g901.2.2.1,g901.2.2.2) h902 (pm 4 [1,0,2,3])) fun _ _=>?_
 cases H.out; exact rt i2 rfl () 1 [0] 0 (.cons (res_tmp rfl) .nil)
theorem server_Server_refuses.c {k:Nat} {a0:SSelTicStaAllComSen} {a1:Edu} {p0_:OV} {r:Int} (h:server_Server_refuses.f k a0 a1 = some r):Tr Tryz.prog 79 [eq p0_.1,agg (Edu.enc a1)] [SSelTicStaAllComSen.O p0_ a0] (γ:=Unit) (fun _=>True) (fun g=>vI r) (fun g=>[SSelTicStaAllComSen.O p0_ a0]):=by
 unfold server_Server_refuses.f at h
 refine tb Tryz.func79 Tryz.ntmps79 h fun R0 F H=>?_
 refine WP.seq<|rg 2 1<|Dv.box rfl trivial rfl cA nofun fun b909=>as0 rfl rfl<|.fin<|WP.seqr H id (fun p910:Bool×Bool×Bool=>[(0,eq p0_.1),(3,eq (.pointer (some ⟨b909,0,none⟩)))]) (fun p910:Bool×Bool×Bool=>[blk b909 80 (Edu.enc a1),SSelTicStaAllComSen.O p0_ a0]++F) (fun p910 H=>?_) (fun H=>?_)
 ·
  refine WP.seqr H id (fun p911:Unit=>[(0,eq p0_.1)]) (fun p911:Unit=>[blk b909 80 (Edu.enc a1),SSelTicStaAllComSen.O p0_ a0]++F) (fun p911 H=>?_) (fun H=>?_)
  rotate_left
  ·
   refine WP.seq<|rg 3 0<|fb rfl trivial rfl fa80_0<|ld 0 rfl trivial rfl sc3 rfl rfl<|bn0 rfl rfl rfl run_eq<|.fin<|cd H rfl (fun _ H=>?_) (fun _ H=>?_)
   rotate_left
   ·
    refine WP.skip ?_
    have H:=H.out
    exact jn () H
   refine WP.seq<|rg 4 4<|mv0 rfl rfl<|lds 0 rfl trivial rfl sg80 rfl rfl<|el H fun t926 h927 H=>cx 2 [1,0] cal131 (server_Server_old.c h927 (p0_:=p0_)) nofun fun _ _=>?_
   refine as0 rfl rfl<|.fin<|WP.seq<|rg 2 0<|mv0 rfl rfl<|bn0 rfl rfl rfl run_ne<|.fin<|cd H rfl (fun _ H=>?_) (fun _ H=>?_)
   rotate_left
   ·
    refine WP.skip ?_
    have H:=H.out
    refine ng (sg 2 [1,0] 0) fun _ _=>?_
    exact jn () H
   refine WP.seq<|rg 2 0<|mv0 rfl rfl<|as0 rfl rfl<|.fin ?_
   have H:=H.outr
   cases H.out; exact rt i2 rfl () 2 [1,0] 1 (.cons (res_tmp rfl) .nil)
  refine WP.seq<|WP.seq<|wg (SSelTicStaAllComSen.opn 1 rfl) fun g912 h913=>?_
  refine wg (Ctr.opn 2 rfl) fun g914 h915=>?_
  refine dg Tryz.checked.mixed 20 131072<|mv0 rfl rfl<|Dv.nilpp h913 rfl trivial rfl<|fp h913 rfl trivial rfl fa102_2<|ld 1 rfl trivial rfl sc82 rfl rfl<|el H fun t916 h917 H=>cll 11 [0,1,2,3,4,5,6,7,8,9,10] cal35 (Tr.weak (clock_Counter_At.c h917 (b0_:=g914)) (.cons (wk_ptr h915) .nil)) ?_
  refine mv0 rfl rfl<|Dv.nilpp h913 rfl trivial rfl<|fp h913 rfl trivial rfl fa102_2<|ld 1 rfl trivial rfl sc82 rfl rfl<|el H fun t918 h919 H=>cll 11 [0,1,2,3,4,5,6,7,8,9,10] cal132 (Tr.weak (clock_Counter_Most.c h919 (b0_:=g914)) (.cons (wk_ptr h915) .nil)) ?_
  refine bn0 rfl rfl rfl run_eq<|mv0 rfl rfl ?_
  cases c920:(t916 == t918)
  rotate_left
  ·
   have H:=H.ct c920
   refine sk rfl rfl<|sk rfl rfl<|sk rfl rfl<|sk rfl rfl<|sk rfl rfl<|Dv.skipb rfl ⟨_,_,rfl,rfl,.inl rfl⟩ (fun _=>pend_bits (by kernel_rfl))<|sk rfl rfl<|pt0 rfl rfl rfl<|.fin<|WP.cond rfl (fun _=>?_) nofun
   refine WP.seq<|rg 1 0<|as0 rfl rfl<|.fin<|wg (Ctr.shut (p:=g912.2.2.1) (m:=a0.fstamps) g914 h915 (pm 11 [0,1,2,3,4,5,6,7,8,9,10])) fun _ _=>?_
   refine wg (SSelTicStaAllComSen.shut (p:=p0_) (m:=a0) (g912.1,g912.2.1,g912.2.2.1,g912.2.2.2.1,g912.2.2.2.2.1,g912.2.2.2.2.2.1,g912.2.2.2.2.2.2.1,g912.2.2.2.2.2.2.2.1,g912.2.2.2.2.2.2.2.2.1,g912.2.2.2.2.2.2.2.2.2) h913 (pm 11 [1,2,0,3,4,5,6,7,8,9,10])) fun _ _=>?_
   cases H.out; exact rt i2 rfl () 2 [1,0] 1 (.cons (res_tmp rfl) .nil)
  have H:=H.cf c920
  refine mvg rfl rfl rfl<|Dv.nilpp h913 rfl (gg rfl) rfl<|fp h913 rfl (gg rfl) rfl fa102_3<|fb rfl (gg rfl) rfl fa99_4<|ld 1 rfl (gg rfl) rfl sc85 rfl rfl<|el H fun t922 h923 H=>cx 11 [7,0,1,2,3,4,5,6,8,9,10] cal133 (delta_Log_Room.c h923 (p0_:=g912.2.2.2.2.2.2.2.1)) pC fun _ _=>?_
  refine bng rfl rfl rfl rfl run_eq<|pf0 rfl rfl rfl<|.fin<|cd H rfl (fun _ H=>?_) (fun _ H=>?_)
  ·
   refine WP.seq<|rg 1 0<|as0 rfl rfl<|.fin<|wg (Ctr.shut (p:=g912.2.2.1) (m:=a0.fstamps) g914 h915 (pm 11 [1,0,2,3,4,5,6,7,8,9,10])) fun _ _=>?_
   refine wg (SSelTicStaAllComSen.shut (p:=p0_) (m:=a0) (g912.1,g912.2.1,g912.2.2.1,g912.2.2.2.1,g912.2.2.2.2.1,g912.2.2.2.2.2.1,g912.2.2.2.2.2.2.1,g912.2.2.2.2.2.2.2.1,g912.2.2.2.2.2.2.2.2.1,g912.2.2.2.2.2.2.2.2.2) h913 (pm 11 [2,3,0,4,5,6,7,1,8,9,10])) fun _ _=>?_
   cases H.out; exact rt i2 rfl () 2 [1,0] 1 (.cons (res_tmp rfl) .nil)
  refine WP.skip<|WP.seq<|rg 1 0<|as0 rfl rfl<|.fin<|wg (Ctr.shut (p:=g912.2.2.1) (m:=a0.fstamps) g914 h915 (pm 11 [1,0,2,3,4,5,6,7,8,9,10])) fun _ _=>?_
  refine wg (SSelTicStaAllComSen.shut (p:=p0_) (m:=a0) (g912.1,g912.2.1,g912.2.2.1,g912.2.2.2.1,g912.2.2.2.2.1,g912.2.2.2.2.2.1,g912.2.2.2.2.2.2.1,g912.2.2.2.2.2.2.2.1,g912.2.2.2.2.2.2.2.2.1,g912.2.2.2.2.2.2.2.2.2) h913 (pm 11 [2,3,0,4,5,6,7,1,8,9,10])) fun _ _=>?_
  cases H.out; exact rt i2 rfl () 2 [1,0] 1 (.cons (res_tmp rfl) .nil)
 refine WP.block<|WP.seq<|rg 4 0<|lds 0 rfl trivial rfl sg80 rfl rfl<|el H fun t929 h930 H=>cl rfl cal128 rfl (edu_Local.c h930)<|un0 rfl rfl (run_not _)<|as0 rfl rfl<|.fin<|cd H rfl (fun _ H=>?_) (fun _ H=>?_)
 ·
  refine WP.seq<|rg 1 0<|as0 rfl rfl<|.fin ?_
  have H:=H.outr
  cases H.out; exact rt i2 rfl () 2 [0,1] 1 (.cons (res_tmp rfl) .nil)
 refine WP.seq<|wg (SSelTicStaAllComSen.opn 1 rfl) fun g932 h933=>?_
 refine dg Tryz.checked.mixed 9 0<|fb rfl trivial rfl fa80_2<|ld 10 rfl trivial rfl sc9 rfl rfl<|el H fun t934 h935 H=>cl rfl cal129 rfl (name_Home.c h935)<|mv0 rfl rfl<|Dv.nilpp h933 rfl trivial rfl<|fp h933 rfl trivial rfl fa102_0<|ld 0 rfl trivial rfl sc9 rfl rfl<|bn0 rfl rfl rfl run_sne<|as0 rfl rfl<|.fin<|cd H rfl (fun _ H=>?_) (fun _ H=>?_)
 ·
  refine WP.seq<|rg 1 0<|as0 rfl rfl<|.fin<|wg (SSelTicStaAllComSen.shut (p:=p0_) (m:=a0) (g932.1,g932.2.1,g932.2.2.1,g932.2.2.2.1,g932.2.2.2.2.1,g932.2.2.2.2.2.1,g932.2.2.2.2.2.2.1,g932.2.2.2.2.2.2.2.1,g932.2.2.2.2.2.2.2.2.1,g932.2.2.2.2.2.2.2.2.2) h933 (pm 11 [0,1,2,3,4,5,6,7,8,9,10])) fun _ _=>?_
  have H:=H.outr
  cases H.out; exact rt i2 rfl () 2 [1,0] 1 (.cons (res_tmp rfl) .nil)
 refine WP.seq<|WP.seq<|dg Tryz.checked.mixed 16 2048<|fb rfl trivial rfl fa80_0<|ld 10 rfl trivial rfl sc3 rfl rfl<|bn0 rfl rfl rfl run_eq<|mv0 rfl rfl ?_
 cases c937:(a1.fKind == 3)
 ·
  have H:=H.cf c937
  refine sk rfl rfl<|sk rfl rfl<|sk rfl rfl<|sk rfl rfl<|sk rfl rfl<|sk rfl rfl<|sk rfl rfl<|Dv.skipb rfl ⟨_,_,rfl,rfl,.inl rfl⟩ (fun _=>pend_bits (by kernel_rfl))<|sk rfl rfl<|sk rfl rfl<|pf0 rfl rfl rfl<|as0 rfl rfl<|.fin<|WP.cond rfl nofun (fun _=>?_)
  refine wg (VView.opn 3 rfl) fun g951 h952=>?_
  refine dg Tryz.checked.mixed 17 0<|fb rfl trivial rfl fa80_0<|ld 11 rfl trivial rfl sc3 rfl rfl<|bn0 rfl rfl rfl run_ne<|mv0 rfl rfl ?_
  cases c953:(a1.fKind != 3)
  ·
   have H:=H.cf c953
   refine sk rfl rfl<|sk rfl rfl<|sk rfl rfl<|sk rfl rfl<|sk rfl rfl<|sk rfl rfl<|sk rfl rfl<|sk rfl rfl<|sk rfl rfl<|sk rfl rfl<|sk rfl rfl<|pf0 rfl rfl rfl<|as0 rfl rfl<|.fin<|WP.cond rfl nofun (fun _=>?_)
   refine WP.skip ?_
   have H:=H.out
   refine ng (VView.shut (p:=g932.2.2.2.1) (m:=a0.fall.fView) (g951.1,g951.2) h952 (pm 12 [0,1,2,3,4,5,6,7,8,9,10,11])) fun _ _=>?_
   refine ng (SSelTicStaAllComSen.shut (p:=p0_) (m:=a0) (g932.1,g932.2.1,g932.2.2.1,g932.2.2.2.1,g932.2.2.2.2.1,g932.2.2.2.2.2.1,g932.2.2.2.2.2.2.1,g932.2.2.2.2.2.2.2.1,g932.2.2.2.2.2.2.2.2.1,g932.2.2.2.2.2.2.2.2.2) h933 (pm 11 [1,2,3,0,4,5,6,7,8,9,10])) fun _ _=>?_
   refine ng (sg 2 [1,0] 0) fun _ _=>?_
   exact jn (!t929,!decide (t934 = a0.fself),false) H
  have H:=H.ct c953
  refine mvg rfl rfl rfl<|Dv.nilpp h933 rfl (gg rfl) rfl<|fp h933 rfl (gg rfl) rfl fa102_3<|fb rfl (gg rfl) rfl fa99_0<|ld 2 rfl (gg rfl) rfl sc33 rfl rfl<|fb rfl (gg rfl) rfl fa80_1<|ld 11 rfl (gg rfl) rfl sc9 rfl rfl<|fb rfl (gg rfl) rfl fa80_2<|ld 11 rfl (gg rfl) rfl sc9 rfl rfl<|el H fun t954 h955 H=>cll 12 [0,1,2,3,4,5,6,7,8,9,10,11] cal118 (Tr.weak (view_View_Joined.c h955 (b0_:=g951.1) (v0_0:=g951.2)) (.cons (wk_ptr h952) (.cons wk_id (.cons wk_id .nil)))) ?_
  refine ung rfl rfl rfl (run_not _)<|pt0 rfl rfl rfl<|as0 rfl rfl<|.fin<|cd H rfl (fun _ H=>?_) (fun _ H=>?_)
  rotate_left
  ·
   refine WP.skip ?_
   have H:=H.out
   refine ng (VView.shut (p:=g932.2.2.2.1) (m:=a0.fall.fView) (g951.1,g951.2) h952 (pm 12 [0,1,2,3,4,5,6,7,8,9,10,11])) fun _ _=>?_
   refine ng (SSelTicStaAllComSen.shut (p:=p0_) (m:=a0) (g932.1,g932.2.1,g932.2.2.1,g932.2.2.2.1,g932.2.2.2.2.1,g932.2.2.2.2.2.1,g932.2.2.2.2.2.2.1,g932.2.2.2.2.2.2.2.1,g932.2.2.2.2.2.2.2.2.1,g932.2.2.2.2.2.2.2.2.2) h933 (pm 11 [1,2,3,0,4,5,6,7,8,9,10])) fun _ _=>?_
   refine ng (sg 2 [1,0] 0) fun _ _=>?_
   exact jn (!t929,!decide (t934 = a0.fself),!t954) H
  refine WP.seq<|rg 1 0<|as0 rfl rfl<|.fin<|wg (VView.shut (p:=g932.2.2.2.1) (m:=a0.fall.fView) (g951.1,g951.2) h952 (pm 12 [0,1,2,3,4,5,6,7,8,9,10,11])) fun _ _=>?_
  refine wg (SSelTicStaAllComSen.shut (p:=p0_) (m:=a0) (g932.1,g932.2.1,g932.2.2.1,g932.2.2.2.1,g932.2.2.2.2.1,g932.2.2.2.2.2.1,g932.2.2.2.2.2.2.1,g932.2.2.2.2.2.2.2.1,g932.2.2.2.2.2.2.2.2.1,g932.2.2.2.2.2.2.2.2.2) h933 (pm 11 [1,2,3,0,4,5,6,7,8,9,10])) fun _ _=>?_
  have H:=H.outr
  cases H.out; exact rt i2 rfl () 2 [1,0] 1 (.cons (res_tmp rfl) .nil)
 have H:=H.ct c937
 refine mvg rfl rfl rfl<|Dv.nilpp h933 rfl (gg rfl) rfl<|fp h933 rfl (gg rfl) rfl fa102_3<|fb rfl (gg rfl) rfl fa99_0<|ld 0 rfl (gg rfl) rfl sc33 rfl rfl<|fb rfl (gg rfl) rfl fa80_2<|ld 10 rfl (gg rfl) rfl sc9 rfl rfl<|el H fun t938 h939 H=>cx 11 [3,0,1,2,4,5,6,7,8,9,10] cal130 (view_View_RoomsOf.c h939 (p0_:=g932.2.2.2.1)) pC fun g940 _=>?_
 refine Dv.lenw rfl (gg rfl) rfl (mem_at 1 rfl) Tryz.underlying23<|bng rfl rfl rfl rfl run_eq<|pt0 rfl rfl rfl<|as0 rfl rfl<|.fin<|cd H rfl (fun _ H=>?_) (fun _ H=>?_)
 ·
  refine WP.skip<|cd H rfl (fun _ H=>?_) (fun _ H=>?_)
  ·
   refine WP.seq<|rg 1 0<|as0 rfl rfl<|.fin<|wg (SSelTicStaAllComSen.shut (p:=p0_) (m:=a0) (g932.1,g932.2.1,g932.2.2.1,g932.2.2.2.1,g932.2.2.2.2.1,g932.2.2.2.2.2.1,g932.2.2.2.2.2.2.1,g932.2.2.2.2.2.2.2.1,g932.2.2.2.2.2.2.2.2.1,g932.2.2.2.2.2.2.2.2.2) h933 (pm 12 [2,3,4,0,5,6,7,8,9,10,1,11])) fun _ _=>?_
   have H:=H.outr
   cases H.out; exact rt i2 rfl () 3 [1,2,0] 2 (.cons (res_tmp rfl) .nil)
  refine WP.skip ?_
  have H:=H.out
  refine ng (SSelTicStaAllComSen.shut (p:=p0_) (m:=a0) (g932.1,g932.2.1,g932.2.2.1,g932.2.2.2.1,g932.2.2.2.2.1,g932.2.2.2.2.2.1,g932.2.2.2.2.2.2.1,g932.2.2.2.2.2.2.2.1,g932.2.2.2.2.2.2.2.2.1,g932.2.2.2.2.2.2.2.2.2) h933 (pm 12 [2,3,4,0,5,6,7,8,9,10,1,11])) fun _ _=>?_
  refine ng (sg 3 [1,2,0] 1) fun _ _=>?_
  exact jn (!t929,!decide (t934 = a0.fself),((t938.length:Int) == 0)) H
 refine wg (VView.opn 0 rfl) fun g943 h944=>?_
 refine dg Tryz.checked.mixed 17 0<|fb rfl trivial rfl fa80_0<|ld 12 rfl trivial rfl sc3 rfl rfl<|bn0 rfl rfl rfl run_ne<|mv0 rfl rfl ?_
 cases c945:(a1.fKind != 3)
 ·
  have H:=H.cf c945
  refine sk rfl rfl<|sk rfl rfl<|sk rfl rfl<|sk rfl rfl<|sk rfl rfl<|sk rfl rfl<|sk rfl rfl<|sk rfl rfl<|sk rfl rfl<|sk rfl rfl<|sk rfl rfl<|pf0 rfl rfl rfl<|as0 rfl rfl<|.fin<|WP.cond rfl nofun (fun _=>?_)
  refine WP.skip ?_
  have H:=H.out
  refine ng (VView.shut (p:=g932.2.2.2.1) (m:=a0.fall.fView) (g943.1,g943.2) h944 (pm 13 [0,1,2,3,4,5,6,7,8,9,10,11,12])) fun _ _=>?_
  refine ng (SSelTicStaAllComSen.shut (p:=p0_) (m:=a0) (g932.1,g932.2.1,g932.2.2.1,g932.2.2.2.1,g932.2.2.2.2.1,g932.2.2.2.2.2.1,g932.2.2.2.2.2.2.1,g932.2.2.2.2.2.2.2.1,g932.2.2.2.2.2.2.2.2.1,g932.2.2.2.2.2.2.2.2.2) h933 (pm 12 [2,3,4,0,5,6,7,8,9,10,1,11])) fun _ _=>?_
  refine ng (sg 3 [1,2,0] 1) fun _ _=>?_
  exact jn (!t929,!decide (t934 = a0.fself),false) H
 have H:=H.ct c945
 refine mvg rfl rfl rfl<|Dv.nilpp h933 rfl (gg rfl) rfl<|fp h933 rfl (gg rfl) rfl fa102_3<|fb rfl (gg rfl) rfl fa99_0<|ld 3 rfl (gg rfl) rfl sc33 rfl rfl<|fb rfl (gg rfl) rfl fa80_1<|ld 12 rfl (gg rfl) rfl sc9 rfl rfl<|fb rfl (gg rfl) rfl fa80_2<|ld 12 rfl (gg rfl) rfl sc9 rfl rfl<|el H fun t946 h947 H=>cll 13 [0,1,2,3,4,5,6,7,8,9,10,11,12] cal118 (Tr.weak (view_View_Joined.c h947 (b0_:=g943.1) (v0_0:=g943.2)) (.cons (wk_ptr h944) (.cons wk_id (.cons wk_id .nil)))) ?_
 refine ung rfl rfl rfl (run_not _)<|pt0 rfl rfl rfl<|as0 rfl rfl<|.fin<|cd H rfl (fun _ H=>?_) (fun _ H=>?_)
 rotate_left
 ·
  refine WP.skip ?_
  have H:=H.out
  refine ng (VView.shut (p:=g932.2.2.2.1) (m:=a0.fall.fView) (g943.1,g943.2) h944 (pm 13 [0,1,2,3,4,5,6,7,8,9,10,11,12])) fun _ _=>?_
  refine ng (SSelTicStaAllComSen.shut (p:=p0_) (m:=a0) (g932.1,g932.2.1,g932.2.2.1,g932.2.2.2.1,g932.2.2.2.2.1,g932.2.2.2.2.2.1,g932.2.2.2.2.2.2.1,g932.2.2.2.2.2.2.2.1,g932.2.2.2.2.2.2.2.2.1,g932.2.2.2.2.2.2.2.2.2) h933 (pm 12 [2,3,4,0,5,6,7,8,9,10,1,11])) fun _ _=>?_
  refine ng (sg 3 [1,2,0] 1) fun _ _=>?_
  exact jn (!t929,!decide (t934 = a0.fself),!t946) H
 refine WP.seq<|rg 1 0<|as0 rfl rfl<|.fin<|wg (VView.shut (p:=g932.2.2.2.1) (m:=a0.fall.fView) (g943.1,g943.2) h944 (pm 13 [0,1,2,3,4,5,6,7,8,9,10,11,12])) fun _ _=>?_
 refine wg (SSelTicStaAllComSen.shut (p:=p0_) (m:=a0) (g932.1,g932.2.1,g932.2.2.1,g932.2.2.2.1,g932.2.2.2.2.1,g932.2.2.2.2.2.1,g932.2.2.2.2.2.2.1,g932.2.2.2.2.2.2.2.1,g932.2.2.2.2.2.2.2.2.1,g932.2.2.2.2.2.2.2.2.2) h933 (pm 12 [2,3,4,0,5,6,7,8,9,10,1,11])) fun _ _=>?_
 have H:=H.outr
 cases H.out; exact rt i2 rfl () 3 [1,2,0] 2 (.cons (res_tmp rfl) .nil)
theorem edu_May.c {k:Nat} {a0:Edu} {r:Bool} (h:edu_May.f k a0 = some r):Pt Tryz.prog 142 [agg (Edu.enc a0)] (vB r):=by
 unfold edu_May.f at h
 refine pb Tryz.func142 Tryz.ntmps142 h fun R0 F H=>?_
 refine WP.seq<|rg 2 1<|Dv.box rfl trivial rfl cA nofun fun b958=>as0 rfl rfl<|.fin<|WP.seq<|rg 8 0<|lds 0 rfl trivial rfl sg80 rfl rfl<|el H fun t959 h960 H=>cl rfl cal128 rfl (edu_Local.c h960)<|mv0 rfl rfl ?_
 cases c961:t959
 ·
  have H:=H.cf c961
  refine sk rfl rfl<|sk rfl rfl<|sk rfl rfl<|pf0 rfl rfl rfl<|as0 rfl rfl<|.fin ?_
  cases H.out; exact r1 i2 rfl (.cons (res_tmp rfl) .nil)
 have H:=H.ct c961
 refine fb rfl (gg rfl) rfl fa80_5<|ld 0 rfl (gg rfl) rfl sc4 rfl rfl<|ung rfl rfl rfl (run_not _)<|pt0 rfl rfl rfl<|as0 rfl rfl<|.fin ?_
 cases H.out; exact r1 i2 rfl (.cons (res_tmp rfl) .nil)
theorem edu_Of.c {a0:Edu} {r:EKey} (h:edu_Of.f a0 = some r):Pt Tryz.prog 143 [agg (Edu.enc a0)] (agg (EKey.enc r)):=by
 unfold edu_Of.f at h
 refine pb Tryz.func143 Tryz.ntmps143 h fun R0 F H=>?_
 refine WP.seq<|rg 2 3<|Dv.box rfl trivial rfl cA nofun fun b962=>al rfl trivial zc264 nofun fun b963=>.fin<|WP.seq<|rg 12 2048<|fb rfl trivial rfl fa80_0<|ld 1 rfl trivial rfl sc3 rfl rfl<|fb rfl trivial rfl fa80_1<|ld 1 rfl trivial rfl sc9 rfl rfl<|fb rfl trivial rfl fa80_2<|ld 1 rfl trivial rfl sc9 rfl rfl<|fb rfl trivial rfl fa80_4<|ld 1 rfl trivial rfl sc9 rfl rfl<|fb rfl trivial rfl fa80_5<|ld 1 rfl trivial rfl sc4 rfl rfl<|Dv.bld (qs:=[vI a0.fKind,vS a0.fRoom,vS a0.fUser,vS a0.fThread,vB a0.fPrivate]) (css:=[[vI a0.fKind],[vS a0.fRoom],[vS a0.fUser],[vS a0.fThread],[vB a0.fPrivate]]) rfl trivial Tryz.underlying264 pl264 z264 rfl ⟨(cells_one (one_eq rfl)),⟨(cells_one (one_eq rfl)),⟨(cells_one (one_eq rfl)),⟨(cells_one (one_eq rfl)),⟨(cells_one (one_eq rfl)),trivial⟩⟩⟩⟩⟩ rfl rfl<|sx 0 rfl trivial rfl rfl cA sz264 rfl rfl rfl nofun ?_
 refine .fin ?_
 cases H.out; exact r2 i2 rfl (.cons (res_cells rfl Tryz.underlying264 rfl c264 (mem_at 0 rfl) rfl) .nil)
theorem lay_Number.c {k:Nat} {a0:List Int} {a1:Int} {p0_:OV} {r:(List Int)} (h:lay_Number.f k a0 a1 = some r):Tr Tryz.prog 113 [eq p0_.1,vI a1] [own (intK .u8) p0_.1 a0] (γ:=OV) (fun _=>True) (fun g=>eq g.1) (fun g=>[own (intK .u8) g.1 r]):=by
 unfold lay_Number.f at h
 refine tb Tryz.func113 Tryz.ntmps113 h fun R0 F H=>?_
 refine WP.seq<|rg 1 0<|as0 rfl rfl<|.fin<|WP.seq<|rg 3 0<|mv0 rfl rfl<|Dv.maxi rfl trivial rfl rfl<|as0 rfl rfl<|.fin<|WP.seq<|rg 7 32<|mv0 rfl rfl<|mv0 rfl rfl<|Dv.lenw rfl trivial rfl (mem_at 0 rfl) Tryz.underlying41<|mv0 rfl rfl<|Dv.lenw rfl trivial rfl (mem_at 0 rfl) Tryz.underlying41<|gr H fun g964 H=>Dv.slo (jj:=0) rfl trivial rfl rfl Tryz.underlying41 Tryz.underlying5 c5 bdE_none (bdE_some rfl g964.1) (.inr ⟨⟨_,_,rfl,g964.1,rfl⟩,rfl,rfl⟩) g964.2.1 g964.2.2 nofun (fun v965=>?_)
 refine as0 rfl rfl<|.fin<|WP.seqn H (fun q978:(Int×Bool×(List Int))×OV=>q978.1) (fun q978:(Int×Bool×(List Int))×OV=>[(0,eq q978.2.1),(1,vI q978.1.1)]) (fun q978:(Int×Bool×(List Int))×OV=>[own (intK .u8) q978.2.1 q978.1.2.2]++F) (fun q978 H=>?_) (fun H=>?_)
 ·
  obtain ⟨p966,v967⟩:=q978
  refine WP.seq<|rg 6 16<|mv0 rfl rfl<|mv0 rfl rfl<|Dv.cvi rfl trivial rfl Tryz.underlying3 Tryz.underlying5<|Dv.lit (intK .u8) ([IntKind.u8.wrap (p966.1)]:List Int) (css:=[[eq (.int .u8 (IntKind.u8.wrap (p966.1)))]]) rfl trivial Tryz.underlying41 Tryz.underlying5 c5 z5 rfl (by decide) (by decide) rfl ⟨(cells_one (one_eq rfl)),trivial⟩ rfl rfl rfl<|gr H fun g968 H=>ap (intK .u8) 0 ([IntKind.u8.wrap (p966.1)]:List Int) src_sl Tryz.underlying41 (.inr ⟨_,Tryz.underlying41⟩) inf5 g968 nofun fun v969=>?_
  refine as0 rfl rfl<|.fin ?_
  obtain rfl:=Gets.out H
  exact rt i2 rfl v969 1 [0] 0 (.cons (res_tmp rfl) .nil)
 refine WP.block<|wg (sg 1 [0] 0) fun _ _=>?_
 refine lp (fun j_ (p977:Int×(List Int)×OV)=>lay_Number.l0 k j_ p977.1 p977.2.1) (max a1 0,(a0.take ((a0.length:Int).toNat)).drop 0,v965) H (fun p977=>[(0,eq p977.2.2.1),(1,vI p977.1)]) (fun p977=>[own (intK .u8) p977.2.2.1 p977.2.1]++F) ?_
 rintro j_ ⟨x970,x971,v972⟩ H
 rcases j_ with _ | j976
 ·
  exact (Gets.no H).elim
 try dsimp only at H
 rw [lay_Number.l0] at H
 refine WP.seq<|WP.seq<|rg 2 0<|mv0 rfl rfl<|bn0 rfl rfl rfl run_ge<|.fin<|cd H rfl (fun _ H=>?_) (fun _ H=>?_)
 rotate_left
 ·
  refine WP.exit ?_
  have H:=H.out
  exact jn ((x970,decide (128≤x970),x971),v972) H
 refine WP.skip<|WP.seq<|WP.block<|rg 8 64<|mv0 rfl rfl<|mv0 rfl rfl<|bn0 rfl rfl rfl (run_rem (by decide))<|bn0 rfl rfl rfl run_add<|Dv.cvi rfl trivial rfl Tryz.underlying3 Tryz.underlying5<|Dv.lit (intK .u8) ([IntKind.u8.wrap (w64 ((x970.tmod 128) + 128))]:List Int) (css:=[[eq (.int .u8 (IntKind.u8.wrap (w64 ((x970.tmod 128) + 128))))]]) rfl trivial Tryz.underlying41 Tryz.underlying5 c5 z5 rfl (by decide) (by decide) rfl ⟨(cells_one (one_eq rfl)),trivial⟩ rfl rfl rfl<|gr H fun g974 H=>ap (intK .u8) 0 ([IntKind.u8.wrap (w64 ((x970.tmod 128) + 128))]:List Int) src_sl Tryz.underlying41 (.inr ⟨_,Tryz.underlying41⟩) inf5 g974 nofun fun v975=>?_
 exact as0 rfl rfl<|.fin<|rg 3 0<|mv0 rfl rfl<|bn0 rfl rfl rfl (run_quo (by decide))<|as0 rfl rfl<|.fin<|bk j976 (w64 (x970.tdiv 128),x971++([IntKind.u8.wrap (w64 ((x970.tmod 128) + 128))]:List Int),v975) H
theorem lay_Flag.c {k:Nat} {a0:List Int} {a1:Bool} {p0_:OV} {r:(List Int)} (h:lay_Flag.f k a0 a1 = some r):Tr Tryz.prog 111 [eq p0_.1,vB a1] [own (intK .u8) p0_.1 a0] (γ:=OV) (fun _=>True) (fun g=>eq g.1) (fun g=>[own (intK .u8) g.1 r]):=by
 unfold lay_Flag.f at h
 refine tb Tryz.func111 Tryz.ntmps111 h fun R0 F H=>?_
 refine WP.seq<|rg 1 0<|as0 rfl rfl<|.fin<|WP.seq<|WP.seq<|rg 1 0<|mv0 rfl rfl<|.fin<|cd H rfl (fun _ H=>?_) (fun _ H=>?_)
 ·
  refine WP.seq<|rg 3 2<|mv0 rfl rfl<|el H fun t980 h981 H=>cx 1 [0] cal113 (lay_Number.c h981 (p0_:=p0_)) nofun fun g982 _=>?_
  refine as0 rfl rfl<|.fin ?_
  obtain rfl:=Gets.out H
  exact rt i2 rfl g982 1 [0] 0 (.cons (res_tmp rfl) .nil)
 refine WP.skip<|WP.seq<|rg 3 2<|mv0 rfl rfl<|el H fun t983 h984 H=>cx 1 [0] cal113 (lay_Number.c h984 (p0_:=p0_)) nofun fun g985 _=>?_
 refine as0 rfl rfl<|.fin ?_
 obtain rfl:=Gets.out H
 exact rt i2 rfl g985 1 [0] 0 (.cons (res_tmp rfl) .nil)
theorem lay_Text.c {k:Nat} {a0:List Int} {a1:ByteArray} {p0_:OV} {r:(List Int)} (h:lay_Text.f k a0 a1 = some r):Tr Tryz.prog 112 [eq p0_.1,vS a1] [own (intK .u8) p0_.1 a0] (γ:=OV) (fun _=>True) (fun g=>eq g.1) (fun g=>[own (intK .u8) g.1 r]):=by
 unfold lay_Text.f at h
 refine tb Tryz.func112 Tryz.ntmps112 h fun R0 F H=>?_
 refine WP.seq<|rg 1 0<|as0 rfl rfl<|.fin<|WP.seq<|rg 7 40<|mv0 rfl rfl<|mv0 rfl rfl<|Dv.lens rfl trivial rfl Tryz.underlying9<|el H fun t986 h987 H=>cx 1 [0] cal113 (lay_Number.c h987 (p0_:=p0_)) nofun fun g988 _=>?_
 refine mv0 rfl rfl<|gr H fun g989 H=>ap (intK .u8) 0 (strBs a1) src_str Tryz.underlying41 (.inl Tryz.underlying9) inf5 g989 nofun fun v990=>?_
 refine as0 rfl rfl<|.fin ?_
 obtain rfl:=Gets.out H
 exact rt i2 rfl v990 1 [0] 0 (.cons (res_tmp rfl) .nil)
theorem edu_laid.c {k:Nat} {a0:Edu} {r:(List Int)} (h:edu_laid.f k a0 = some r):Tr Tryz.prog 186 [agg (Edu.enc a0)] [] (γ:=OV) (fun _=>True) (fun g=>eq g.1) (fun g=>[own (intK .u8) g.1 r]):=by
 unfold edu_laid.f at h
 refine tb Tryz.func186 Tryz.ntmps186 h fun R0 F H=>?_
 refine WP.seq<|rg 2 1<|Dv.box rfl trivial rfl cA nofun fun b991=>as0 rfl rfl<|.fin<|WP.seq<|rg 4 4<|fb rfl trivial rfl fa80_0<|ld 0 rfl trivial rfl sc3 rfl rfl<|vg (st_nil (intK .u8) none) fun _ _=>?_
 refine el H fun t992 h993 H=>cx 2 [0,1] cal113 (lay_Number.c h993 (p0_:=nilV)) nofun fun g994 _=>?_
 refine as0 rfl rfl<|.fin<|WP.seqn H (fun q1023:(Int×Bool×(List Int))×OV=>q1023.1) (fun q1023:(Int×Bool×(List Int))×OV=>[(1,eq (.pointer (some ⟨b991,0,none⟩))),(3,eq q1023.2.1)]) (fun q1023:(Int×Bool×(List Int))×OV=>[blk b991 80 (Edu.enc a0),own (intK .u8) q1023.2.1 q1023.1.2.2]++F) (fun q1023 H=>?_) (fun H=>?_)
 rotate_left
 ·
  refine WP.seq<|rg 11 0<|fb rfl trivial rfl fa80_1<|ld 1 rfl trivial rfl sc9 rfl rfl<|fb rfl trivial rfl fa80_2<|ld 1 rfl trivial rfl sc9 rfl rfl<|fb rfl trivial rfl fa80_3<|ld 1 rfl trivial rfl sc9 rfl rfl<|fb rfl trivial rfl fa80_4<|ld 1 rfl trivial rfl sc9 rfl rfl<|Dv.lit strK ([a0.fRoom,a0.fUser,a0.fEvent,a0.fThread]:List ByteArray) (css:=[[vS a0.fRoom],[vS a0.fUser],[vS a0.fEvent],[vS a0.fThread]]) rfl trivial Tryz.underlying23 Tryz.underlying9 c9 z9 rfl (by decide) (by decide) rfl ⟨(cells_one (one_eq rfl)),⟨(cells_one (one_eq rfl)),⟨(cells_one (one_eq rfl)),⟨(cells_one (one_eq rfl)),trivial⟩⟩⟩⟩ rfl rfl rfl<|Dv.lenl rfl trivial rfl Tryz.underlying23<|mv0 rfl rfl<|.fin<|WP.block<|wg (sg 2 [1,0] 0) fun _ _=>?_
  refine lp (fun j_ (p1022:Int×(List Int)×OV)=>edu_laid.l1 k a0 j_ p1022.1 p1022.2.1) (0,t992,g994) H (fun p1022=>[(1,eq (.pointer (some ⟨b991,0,none⟩))),(3,eq p1022.2.2.1),(19,sl strK ([a0.fRoom,a0.fUser,a0.fEvent,a0.fThread]:List ByteArray)),(20,vI (([a0.fRoom,a0.fUser,a0.fEvent,a0.fThread]:List ByteArray).length:Int)),(21,vI p1022.1)]) (fun p1022=>[blk b991 80 (Edu.enc a0),own (intK .u8) p1022.2.2.1 p1022.2.1]++F) ?_
  rintro j_ ⟨x1013,x1014,v1015⟩ H
  rcases j_ with _ | j1021
  ·
   exact (Gets.no H).elim
  try dsimp only at H
  rw [edu_laid.l1] at H
  refine WP.seq<|rg 1 0<|bn0 rfl rfl rfl run_lt<|.fin<|WP.seq<|cd H rfl (fun _ H=>?_) (fun _ H=>?_)
  rotate_left
  ·
   refine WP.exit ?_
   have H:=H.out
   exact jn ((x1013,decide (x1013 < (([a0.fRoom,a0.fUser,a0.fEvent,a0.fThread]:List ByteArray).length:Int)),x1014),v1015) H
  refine WP.skip<|WP.seq<|WP.block<|WP.seq<|rg 3 0<|gr H fun g1017 H=>Dv.ixr rfl trivial rfl rfl Tryz.underlying23 Tryz.underlying9 c9 g1017.1 g1017.2<|ldR rfl trivial rfl sc9 rfl<|as0 rfl rfl<|.fin<|rg 4 4<|mv0 rfl rfl<|mv0 rfl rfl<|el H fun t1018 h1019 H=>cx 2 [1,0] cal112 (lay_Text.c h1019 (p0_:=v1015)) nofun fun g1020 _=>?_
  refine as0 rfl rfl<|.fin<|rg 2 0<|bn0 rfl rfl rfl run_add<|mv0 rfl rfl<|.fin<|ng (sg 2 [1,0] 0) fun _ _=>?_
  exact bk j1021 (w64 (x1013 + 1),t1018,g1020) H
 obtain ⟨p995,v996⟩:=q1023
 refine WP.seq<|rg 5 8<|mv0 rfl rfl<|fb rfl trivial rfl fa80_6<|ld 0 rfl trivial rfl sc4 rfl rfl<|el H fun t997 h998 H=>cx 2 [1,0] cal111 (lay_Flag.c h998 (p0_:=v996)) nofun fun g999 _=>?_
 refine as0 rfl rfl<|.fin<|WP.seqn H (fun q1012:(Int×Bool×(List Int))×OV=>q1012.1) (fun q1012:(Int×Bool×(List Int))×OV=>[(3,eq q1012.2.1)]) (fun q1012:(Int×Bool×(List Int))×OV=>[blk b991 80 (Edu.enc a0),own (intK .u8) q1012.2.1 q1012.1.2.2]++F) (fun q1012 H=>?_) (fun H=>?_)
 ·
  obtain ⟨p1000,v1001⟩:=q1012
  refine WP.seq<|rg 2 0<|mv0 rfl rfl<|as0 rfl rfl<|.fin ?_
  obtain rfl:=Gets.out H
  exact rt i2 rfl v1001 2 [0,1] 1 (.cons (res_tmp rfl) .nil)
 refine WP.seq<|rg 11 0<|fb rfl trivial rfl fa80_7<|ld 1 rfl trivial rfl sc3 rfl rfl<|fb rfl trivial rfl fa80_8<|ld 1 rfl trivial rfl sc3 rfl rfl<|fb rfl trivial rfl fa80_9<|ld 1 rfl trivial rfl sc3 rfl rfl<|fb rfl trivial rfl fa80_10<|ld 1 rfl trivial rfl sc3 rfl rfl<|Dv.lit (intK .i64) ([a0.fSpan,a0.fState,a0.fTick,a0.fStamp]:List Int) (css:=[[vI a0.fSpan],[vI a0.fState],[vI a0.fTick],[vI a0.fStamp]]) rfl trivial Tryz.underlying24 Tryz.underlying3 c3 z3 rfl (by decide) (by decide) rfl ⟨(cells_one (one_eq rfl)),⟨(cells_one (one_eq rfl)),⟨(cells_one (one_eq rfl)),⟨(cells_one (one_eq rfl)),trivial⟩⟩⟩⟩ rfl rfl rfl<|Dv.lenl rfl trivial rfl Tryz.underlying24<|mv0 rfl rfl<|.fin<|WP.block<|wg (sg 2 [1,0] 0) fun _ _=>?_
 refine lp (fun j_ (p1011:Int×(List Int)×OV)=>edu_laid.l0 k a0 j_ p1011.1 p1011.2.1) (0,t997,g999) H (fun p1011=>[(3,eq p1011.2.2.1),(41,sl (intK .i64) ([a0.fSpan,a0.fState,a0.fTick,a0.fStamp]:List Int)),(42,vI (([a0.fSpan,a0.fState,a0.fTick,a0.fStamp]:List Int).length:Int)),(43,vI p1011.1)]) (fun p1011=>[blk b991 80 (Edu.enc a0),own (intK .u8) p1011.2.2.1 p1011.2.1]++F) ?_
 rintro j_ ⟨x1002,x1003,v1004⟩ H
 rcases j_ with _ | j1010
 ·
  exact (Gets.no H).elim
 try dsimp only at H
 rw [edu_laid.l0] at H
 refine WP.seq<|rg 1 0<|bn0 rfl rfl rfl run_lt<|.fin<|WP.seq<|cd H rfl (fun _ H=>?_) (fun _ H=>?_)
 rotate_left
 ·
  refine WP.exit ?_
  have H:=H.out
  exact jn ((x1002,decide (x1002 < (([a0.fSpan,a0.fState,a0.fTick,a0.fStamp]:List Int).length:Int)),x1003),v1004) H
 refine WP.skip<|WP.seq<|WP.block<|WP.seq<|rg 3 0<|gr H fun g1006 H=>Dv.ixr rfl trivial rfl rfl Tryz.underlying24 Tryz.underlying3 c3 g1006.1 g1006.2<|ldR rfl trivial rfl sc3 rfl<|as0 rfl rfl<|.fin<|rg 4 4<|mv0 rfl rfl<|mv0 rfl rfl<|el H fun t1007 h1008 H=>cx 2 [1,0] cal113 (lay_Number.c h1008 (p0_:=v1004)) nofun fun g1009 _=>?_
 refine as0 rfl rfl<|.fin<|rg 2 0<|bn0 rfl rfl rfl run_add<|mv0 rfl rfl<|.fin<|ng (sg 2 [1,0] 0) fun _ _=>?_
 exact bk j1010 (w64 (x1002 + 1),t1007,g1009) H
theorem bytes_Compare.c {a0:List Int} {a1:List Int} {r:Int} (h:bytes_Compare.f a0 a1 = some r):Pt Tryz.prog 271 [sl (intK .u8) a0,sl (intK .u8) a1] (vI r):=by
 unfold bytes_Compare.f at h
 refine pb Tryz.func271 Tryz.ntmps271 h fun R0 F H=>?_
 refine WP.seq<|rg 1 0<|as0 rfl rfl<|.fin<|WP.seq<|rg 4 0<|mv0 rfl rfl<|mv0 rfl rfl<|Dv.cext rfl trivial rfl (xt_cmp Tryz.func288 (by kernel_rfl) rfl xf288 xg288)<|as0 rfl rfl<|.fin ?_
 cases H.out; exact r0 i2 rfl (.cons (res_tmp rfl) .nil)
theorem edu_Compare.c {k:Nat} {a0:Edu} {a1:Edu} {r:Int} (h:edu_Compare.f k a0 a1 = some r):Pt Tryz.prog 218 [agg (Edu.enc a0),agg (Edu.enc a1)] (vI r):=by
 unfold edu_Compare.f at h
 refine pb Tryz.func218 Tryz.ntmps218 h fun R0 F H=>?_
 refine WP.seq<|rg 3 3<|Dv.box rfl trivial rfl cA nofun fun b1024=>Dv.box rfl trivial rfl cA nofun fun b1025=>as0 rfl rfl<|.fin<|WP.seq<|dgo Tryz.checked.mixed [0,1,2,3,4,5,7,6,8,9,10,11,12] [6,8]<|fb rfl trivial rfl fa80_10<|ld 1 rfl trivial rfl sc3 rfl rfl<|fb rfl trivial rfl fa80_10<|ld 0 rfl trivial rfl sc3 rfl rfl<|el H fun t1026 h1027 H=>cl rfl cal197 rfl (cmp_Compare_int.c h1027)<|lds 1 rfl trivial rfl sg80 rfl rfl<|lds 0 rfl trivial rfl sg80 rfl rfl<|el H fun t1028 h1029 H=>Dv.callx (pre:=[]) (F:=[blk b1025 80 (Edu.enc a1),blk b1024 80 (Edu.enc a0)]++F) (fun g1030:OV=>[own (intK .u8) g1030.1 t1028,blk b1025 80 (Edu.enc a1),blk b1024 80 (Edu.enc a0)]++F) rfl trivial cal186 rfl (edu_laid.c h1029) (perm_to (L:=[blk b1025 80 (Edu.enc a1),blk b1024 80 (Edu.enc a0)]) (F:=F) [0,1] rfl rfl rfl) rfl (fun _=>pendc (pend_in (fun _=>(mem_at 1 rfl)) (pend_by (by kernel_rfl) (pend_by (by kernel_rfl) (pend_by (by kernel_rfl) (pend_by (by kernel_rfl) (pend_by (by kernel_rfl) (pend_by (by kernel_rfl) pend_nil)))))))) (fun g1030 _=>?_)
 refine el H fun t1031 h1032 H=>cx 3 [0,1,2] cal186 (edu_laid.c h1032) pC fun g1033 _=>?_
 refine el H fun t1034 h1035 H=>cll (B:=[own (intK .u8) g1030.1 t1028,own (intK .u8) g1033.1 t1031]) 4 [1,0,2,3] cal271 (Pt.lend _ (bytes_Compare.c h1035) (.cons (lt_own (mem_at 0 rfl)) (.cons (lt_own (mem_at 1 rfl)) .nil)) flat_eq) ?_
 refine Dv.lit (intK .i64) ([t1026,t1034]:List Int) (css:=[[vI t1026],[vI t1034]]) rfl trivial Tryz.underlying24 Tryz.underlying3 c3 z3 rfl (by decide) (by decide) rfl ⟨(cells_one (one_eq rfl)),⟨(cells_one (one_eq rfl)),trivial⟩⟩ rfl rfl rfl<|el H fun t1036 h1037 H=>cl rfl cal195 rfl (cmp_Or_int.c h1037)<|as0 rfl rfl<|.fin ?_
 cases H.out; exact r4 i2 rfl (.cons (res_tmp rfl) .nil)
theorem edu_Later.c {k:Nat} {a0:Edu} {a1:Edu} {r:Bool} (h:edu_Later.f k a0 a1 = some r):Pt Tryz.prog 144 [agg (Edu.enc a0),agg (Edu.enc a1)] (vB r):=by
 unfold edu_Later.f at h
 refine pb Tryz.func144 Tryz.ntmps144 h fun R0 F H=>?_
 refine WP.seq<|rg 3 3<|Dv.box rfl trivial rfl cA nofun fun b1038=>Dv.box rfl trivial rfl cA nofun fun b1039=>as0 rfl rfl<|.fin<|WP.seq<|dg Tryz.checked.mixed 12 0<|lds 1 rfl trivial rfl sg80 rfl rfl<|el H fun t1040 h1041 H=>cl rfl cal143 rfl (edu_Of.c h1041)<|lds 0 rfl trivial rfl sg80 rfl rfl<|el H fun t1042 h1043 H=>cl rfl cal143 rfl (edu_Of.c h1043)<|Dv.eqs [.int .i64 t1040.fKind,.string t1040.fRoom,.string t1040.fUser,.string t1040.fThread,.bool t1040.fPrivate] [.int .i64 t1042.fKind,.string t1042.fRoom,.string t1042.fUser,.string t1042.fThread,.bool t1042.fPrivate] rfl trivial rfl rfl rfl rfl eg264 (fun _=>equal_of 2 (by decide) (fun _=>eqt264 t1040 t1042))<|mv0 rfl rfl ?_
 cases c1044:decide (t1040 = t1042)
 ·
  have H:=H.cf c1044
  refine sk rfl rfl<|sk rfl rfl<|sk rfl rfl<|sk rfl rfl<|pf0 rfl rfl rfl<|as0 rfl rfl<|.fin ?_
  cases H.out; exact r2 i2 rfl (.cons (res_tmp rfl) .nil)
 have H:=H.ct c1044
 refine lds 1 rfl (gg rfl) rfl sg80 rfl rfl<|lds 0 rfl (gg rfl) rfl sg80 rfl rfl<|el H fun t1045 h1046 H=>Dv.call rfl (gg rfl) cal218 rfl (edu_Compare.c h1046)<|bng rfl rfl rfl rfl run_gt<|pt0 rfl rfl rfl<|as0 rfl rfl<|.fin ?_
 cases H.out; exact r2 i2 rfl (.cons (res_tmp rfl) .nil)
theorem slices_BinarySearchFunc_Edu_Edu.c {k:Nat} {a0:List Edu} {a1:Edu} {a2:Edu→Edu→Option Int} {r:Int×Bool} (h:slices_BinarySearchFunc_Edu_Edu.f k a0 a1 a2 = some r):Pt Tryz.prog 259 [sl Edu.K a0,agg (Edu.enc a1),fq_api_Edu_api_Edu_int a2] (tup [vI r.1,vB r.2]):=by
 unfold slices_BinarySearchFunc_Edu_Edu.f at h
 refine pb Tryz.func259 Tryz.ntmps259 h fun R0 F H=>?_
 refine WP.seq<|rg 3 1<|Dv.box rfl trivial rfl cA nofun fun b1047=>as0 rfl rfl<|as0 rfl rfl<|.fin<|WP.seq<|rg 3 0<|mv0 rfl rfl<|Dv.lenl rfl trivial rfl Tryz.underlying40<|as0 rfl rfl<|.fin<|WP.seq<|rg 3 0<|mv0 rfl rfl<|as0 rfl rfl<|as0 rfl rfl<|.fin<|WP.seqn H id (fun p1048:Int×Int×Bool=>[(0,sl Edu.K a0),(2,fq_api_Edu_api_Edu_int a2),(4,eq (.pointer (some ⟨b1047,0,none⟩))),(8,vI (a0.length:Int)),(9,vI p1048.1)]) (fun p1048:Int×Int×Bool=>[blk b1047 80 (Edu.enc a1)]++F) (fun p1048 H=>?_) (fun H=>?_)
 ·
  refine WP.seq<|dg Tryz.checked.mixed 16 0<|mv0 rfl rfl<|mv0 rfl rfl<|mv0 rfl rfl<|bn0 rfl rfl rfl run_lt<|mv0 rfl rfl ?_
  cases c1049:decide (p1048.1 < (a0.length:Int))
  ·
   have H:=H.cf c1049
   refine sk rfl rfl<|sk rfl rfl<|sk rfl rfl<|sk rfl rfl<|sk rfl rfl<|sk rfl rfl<|sk rfl rfl<|sk rfl rfl<|pf0 rfl rfl rfl<|as0 rfl rfl<|as0 rfl rfl<|.fin ?_
   cases H.out; exact r1 i2 rfl (.cons (res_tmp rfl) (.cons (res_tmp rfl) .nil))
  have H:=H.ct c1049
  refine mvg rfl rfl rfl<|mvg rfl rfl rfl<|mvg rfl rfl rfl<|gr H fun g1050 H=>Dv.ixr rfl (gg rfl) rfl rfl Tryz.underlying40 Tryz.underlying80 c80 g1050.1 g1050.2<|ldsR rfl (gg rfl) rfl sg80 rfl<|lds 0 rfl (gg rfl) rfl sg80 rfl rfl<|el H fun t1051 h1052 H=>Dv.callq (ret:=vI t1051) rfl (gg rfl) rfl rfl ⟨_,_,_,h1052,rfl,rfl⟩<|bng rfl rfl rfl rfl run_eq<|pt0 rfl rfl rfl<|as0 rfl rfl<|as0 rfl rfl<|.fin ?_
  cases H.out; exact r1 i2 rfl (.cons (res_tmp rfl) (.cons (res_tmp rfl) .nil))
 refine WP.block<|wg (sg 1 [0] 0) fun _ _=>?_
 refine lp (fun j_ (p1061:Int×Int)=>slices_BinarySearchFunc_Edu_Edu.l0 k a0 a1 a2 j_ p1061.1 p1061.2) (0,(a0.length:Int)) H (fun p1061=>[(0,sl Edu.K a0),(2,fq_api_Edu_api_Edu_int a2),(4,eq (.pointer (some ⟨b1047,0,none⟩))),(8,vI (a0.length:Int)),(9,vI p1061.1),(10,vI p1061.2)]) (fun p1061=>[blk b1047 80 (Edu.enc a1)]++F) ?_
 rintro j_ ⟨x1053,x1054⟩ H
 rcases j_ with _ | j1060
 ·
  exact (Gets.no H).elim
 try dsimp only at H
 rw [slices_BinarySearchFunc_Edu_Edu.l0] at H
 refine WP.seq<|WP.seq<|rg 3 0<|mv0 rfl rfl<|mv0 rfl rfl<|bn0 rfl rfl rfl run_lt<|.fin<|cd H rfl (fun _ H=>?_) (fun _ H=>?_)
 rotate_left
 ·
  refine WP.exit ?_
  have H:=H.out
  exact jn (x1053,x1054,decide (x1053 < x1054)) H
 refine WP.skip<|WP.block<|WP.seq<|rg 7 0<|mv0 rfl rfl<|mv0 rfl rfl<|bn0 rfl rfl rfl run_add<|Dv.cvi rfl trivial rfl Tryz.underlying3 Tryz.underlying225<|bn0 rfl rfl rfl (run_shr (by decide))<|Dv.cvi rfl trivial rfl Tryz.underlying225 Tryz.underlying3<|as0 rfl rfl<|.fin<|WP.seq<|dg Tryz.checked.mixed 8 0<|mv0 rfl rfl<|mv0 rfl rfl<|mv0 rfl rfl<|gr H fun g1056 H=>Dv.ixr rfl trivial rfl rfl Tryz.underlying40 Tryz.underlying80 c80 g1056.1 g1056.2<|ldsR rfl trivial rfl sg80 rfl<|lds 0 rfl trivial rfl sg80 rfl rfl<|el H fun t1057 h1058 H=>Dv.callq (ret:=vI t1057) rfl trivial rfl rfl ⟨_,_,_,h1058,rfl,rfl⟩<|bn0 rfl rfl rfl run_lt<|.fin<|cd H rfl (fun _ H=>?_) (fun _ H=>?_)
 rotate_left
 ·
  exact rg 2 0<|mv0 rfl rfl<|as0 rfl rfl<|.fin<|bk j1060 (x1053,w64 ((IntKind.u64.wrap (w64 (x1053 + x1054))).fdiv 2)) H
 exact rg 3 0<|mv0 rfl rfl<|bn0 rfl rfl rfl run_add<|as0 rfl rfl<|.fin<|bk j1060 (w64 ((w64 ((IntKind.u64.wrap (w64 (x1053 + x1054))).fdiv 2)) + 1),x1054) H
theorem typing_Table_place_1.c {k:Nat} {a0:Edu} {a1:Edu} {r:Int} (h:typing_Table_place_1.f k a0 a1 = some r):Pt Tryz.prog 260 [agg (Edu.enc a0),agg (Edu.enc a1)] (vI r):=by
 unfold typing_Table_place_1.f at h
 refine pb Tryz.func260 Tryz.ntmps260 h fun R0 F H=>?_
 refine WP.seq<|rg 3 3<|Dv.box rfl trivial rfl cA nofun fun b1062=>Dv.box rfl trivial rfl cA nofun fun b1063=>as0 rfl rfl<|.fin<|WP.seq<|dg Tryz.checked.mixed 13 0<|fb rfl trivial rfl fa80_1<|ld 1 rfl trivial rfl sc9 rfl rfl<|fb rfl trivial rfl fa80_1<|ld 0 rfl trivial rfl sc9 rfl rfl<|el H fun t1064 h1065 H=>cl rfl cal196 rfl (cmp_Compare_string.c h1065)<|fb rfl trivial rfl fa80_2<|ld 1 rfl trivial rfl sc9 rfl rfl<|fb rfl trivial rfl fa80_2<|ld 0 rfl trivial rfl sc9 rfl rfl<|el H fun t1066 h1067 H=>cl rfl cal196 rfl (cmp_Compare_string.c h1067)<|Dv.lit (intK .i64) ([t1064,t1066]:List Int) (css:=[[vI t1064],[vI t1066]]) rfl trivial Tryz.underlying24 Tryz.underlying3 c3 z3 rfl (by decide) (by decide) rfl ⟨(cells_one (one_eq rfl)),⟨(cells_one (one_eq rfl)),trivial⟩⟩ rfl rfl rfl<|el H fun t1068 h1069 H=>cl rfl cal195 rfl (cmp_Or_int.c h1069)<|as0 rfl rfl<|.fin ?_
 cases H.out; exact r2 i2 rfl (.cons (res_tmp rfl) .nil)
theorem typing_Table_place.c {k:Nat} {a0:TTab} {a1:Edu} {v0_0 v0_1:OV} {b0_:Nat} {r:Int×Bool} (h:typing_Table_place.f k a0 a1 = some r):Tr Tryz.prog 209 [eq (.pointer (some ⟨b0_,0,none⟩)),agg (Edu.enc a1)] [blk b0_ 154 [eq v0_0.1,eq v0_1.1],own Edu.K v0_0.1 a0.fl] (γ:=Unit) (fun _=>True) (fun g=>tup [vI r.1,vB r.2]) (fun g=>[blk b0_ 154 [eq v0_0.1,eq v0_1.1],own Edu.K v0_0.1 a0.fl]):=by
 unfold typing_Table_place.f at h
 refine tb Tryz.func209 Tryz.ntmps209 h fun R0 F H=>?_
 refine WP.seq<|rg 3 1<|Dv.box rfl trivial rfl cA nofun fun b1070=>as0 rfl rfl<|as0 rfl rfl<|.fin<|WP.seq<|dg Tryz.checked.mixed 10 0<|mv0 rfl rfl<|Dv.nilp rfl trivial rfl<|fb rfl trivial rfl fa154_0<|ld 1 rfl trivial rfl sc40 rfl rfl<|lds 0 rfl trivial rfl sg80 rfl rfl<|el H fun t1071 h1072 H=>cll (B:=[own Edu.K v0_0.1 a0.fl]) 3 [2,0,1] cal259 (Pt.lend _ (Pt.weak (slices_BinarySearchFunc_Edu_Edu.c h1072) (.cons wk_id (.cons wk_id (.cons (wk_fn cal260 (by rintro _ _ ⟨a0_,a1_,r_,h_,rfl,rfl⟩; exact typing_Table_place_1.c h_)) .nil)))) (.cons (lt_own (mem_at 0 rfl)) (.cons lt_id (.cons lt_id .nil))) (flat_tup (flats_cons flat_eq (flats_cons flat_eq flats_nil)))) ?_
 refine ex0 rfl trivial rfl rfl<|ex0 rfl trivial rfl rfl<|as0 rfl rfl<|as0 rfl rfl<|.fin ?_
 cases H.out; exact rt i2 rfl () 3 [0,1,2] 1 (.cons (res_tmp rfl) (.cons (res_tmp rfl) .nil))
theorem slices_Insert_Edu.c {a0:List Edu} {a1:Int} {a2:List Edu} {p0_:OV} {r:List Edu} (h:slices_Insert_Edu.f a0 a1 a2 = some r):Tr Tryz.prog 210 [eq p0_.1,vI a1,sl Edu.K a2] [own Edu.K p0_.1 a0] (γ:=OV) (fun _=>True) (fun g=>eq g.1) (fun g=>[own Edu.K g.1 r]):=by
 unfold slices_Insert_Edu.f at h
 obtain ⟨⟨h0,h1,h2,h3,h4⟩,h5⟩:=(Gets.of h).grd
 obtain rfl:=Gets.out h5
 clear h h5
 obtain ⟨i,rfl⟩:=Int.eq_ofNat_of_zero_le h0
 have hi:i≤a0.length:=by omega
 obtain ⟨v,hv⟩:=p0_
 obtain ⟨ti,u1,u2,u3,u4⟩:=inf80
 refine Tr.body Tryz.func210 (c:=_) rfl Tryz.ntmps210 (Nat.le_of_ble_eq_true rfl) fun R0 F=>WP.seq<|WP.reg [(0,false)] (by kernel_rfl)<|as0 rfl rfl<|.fin<|WP.seq<|WP.reg [(0,false),(1,false),(2,false)] (by kernel_rfl)<|mv0 rfl rfl<|mv0 rfl rfl<|Dv.sloa (Kd:=Edu.K) (xs:=a0) (v:=v) rfl trivial rfl (mem_at 0 rfl) Tryz.underlying40 Tryz.underlying80 c80 (bdE_nat (m:=i) rfl) hi<|.fin<|WP.seq<|WP.reg [(0,false),(1,false),(2,false)] (by kernel_rfl)<|mv0 rfl rfl<|Dv.lenl rfl trivial rfl Tryz.underlying40<|as0 rfl rfl<|.fin<|WP.seq<|WP.seq<|WP.reg [(0,false),(1,false)] (by kernel_rfl)<|mv0 rfl rfl<|bn0 rfl rfl rfl run_eq<|.fin<|WP.cond rfl (fun c0=>?_) (fun c0=>?_)
 ·
  exfalso; have:=beq_iff_eq.1 c0; omega
 refine WP.skip<|WP.seq<|WP.reg [(0,false),(1,false),(2,false)] (by kernel_rfl)<|mv0 rfl rfl<|Dv.lenw (Kd:=Edu.K) (xs:=a0) (v:=v) rfl trivial rfl (mem_at 0 rfl) Tryz.underlying40<|as0 rfl rfl<|.fin<|WP.seq<|WP.seq<|WP.reg [(0,false),(1,false),(2,false)] (by kernel_rfl)<|mv0 rfl rfl<|mv0 rfl rfl<|bn0 rfl rfl rfl run_eq<|.fin<|WP.cond rfl (fun c1=>?_) (fun c1=>?_)
 ·
  have e1:i = a0.length:=by have:=beq_iff_eq.1 c1; omega
  subst e1
  refine WP.seq<|WP.reg [(0,false),(1,false),(2,true),(3,false)] (by kernel_rfl)<|mv0 rfl rfl<|mv0 rfl rfl<|Dv.appx (Kd:=Edu.K) (xs:=a0) (v:=v) (jj:=0) (ys:=a2) (fun v1:OV=>[own Edu.K v1.1 (a0++a2)]++F) rfl trivial rfl rfl rfl src_sl Tryz.underlying40 (.inr ⟨_,Tryz.underlying40⟩) inf80 rfl (by decide) (by omega) rfl nofun (fun v1=>?_)
  refine as0 rfl rfl<|.fin ?_
  have e2:a0.take (a0.length:Int).toNat++a2++a0.drop (a0.length:Int).toNat = a0++a2:=by simp
  rw [e2]
  exact rt i2 rfl v1 1 [0] 0 (.cons (res_tmp rfl) .nil)
 refine WP.skip ?_
 have hlt:i < a0.length:=by have:¬ ((i:Int) = (a0.length:Int)):=(by simpa using c1); omega
 have hne:a0≠[]:=by intro e; subst e; simp at hlt
 rw [Int.toNat_natCast]
 refine wg (st_own_blk 0 rfl hne) fun g hg=>?_
 rcases g with ⟨b,off,c,bT,A,C⟩
 change v = .slice (some ⟨b,off,none⟩) a0.length c∧a0.length≤c∧A.length = off∧off + c * Edu.K.sz≤(A++a0.flatMap Edu.K.enc++C).length at hg
 obtain ⟨rfl,hc,hA,hlen⟩:=hg
 change WP _ _ _ _ _ _ (blk b bT (A++a0.flatMap Edu.K.enc++C)::F)
 have hsz:0 < Edu.K.sz:=by decide
 have ml:∀ {p q:Nat},p≤q→p * Edu.K.sz≤q * Edu.K.sz:=fun h=>Nat.mul_le_mul_right _ h
 have fl:(A++a0.flatMap Edu.K.enc++C).length = off + a0.length * Edu.K.sz + C.length:=by rw [List.length_append,List.length_append,flatMap_len,hA]
 have fd:((a0.drop i).flatMap Edu.K.enc).length = (a0.length - i) * Edu.K.sz:=by rw [flatMap_len,List.length_drop]
 have fy:(a2.flatMap Edu.K.enc).length = a2.length * Edu.K.sz:=flatMap_len _
 have s1:i * Edu.K.sz + a2.length * Edu.K.sz + (a0.length - i) * Edu.K.sz = (a0.length + a2.length) * Edu.K.sz:=by rw [← Nat.add_mul,← Nat.add_mul]; congr 1; omega
 have s2:(i + a2.length) * Edu.K.sz = i * Edu.K.sz + a2.length * Edu.K.sz:=Nat.add_mul ..
 have zl:(a0.take i++a2++a0.drop i).length = a0.length + a2.length:=by simp only [List.length_append,List.length_take,List.length_drop]; omega
 refine WP.seq<|WP.seq<|WP.reg [(0,false),(1,false),(2,false),(3,false),(4,false),(5,false)] (by kernel_rfl)<|mv0 rfl rfl<|mv0 rfl rfl<|bn0 rfl rfl rfl (run_addn (a:=a0.length) (b:=a2.length) (by omega))<|mv0 rfl rfl<|Dv.capk rfl trivial rfl Tryz.underlying40<|bn0 rfl rfl rfl run_gt<|.fin<|WP.cond rfl (fun c2=>?_) (fun c2=>?_)
 ·
  have hg:c < a0.length + a2.length:=by have:=of_decide_eq_true c2; omega
  refine WP.seq<|WP.reg [(0,false),(1,false),(2,false),(3,false),(4,false),(5,false),(6,false),(7,false),(8,true),(9,false)] (by kernel_rfl)<|mv0 rfl rfl<|mv0 rfl rfl<|Dv.slkm (o':=off) (m':=i) (c':=c) rfl trivial rfl Tryz.underlying40 Tryz.underlying80 c80 bdE_none (bdE_nat (m:=i) rfl) (Nat.zero_le _) (by omega) (.inr rfl) (by simp) (by simp) (by simp)<|mv0 rfl rfl<|mv0 rfl rfl<|bn0 rfl rfl rfl (run_addn (a:=a0.length) (b:=a2.length) (by omega))<|mv0 rfl rfl<|bn0 rfl rfl rfl (run_subn (a:=a0.length + a2.length) (b:=i) (by omega) (by omega))<|Dv.apmn (sz:=Edu.K.sz) (jj:=0) (k1:=a0.length + a2.length - i) (N:=a0.length + a2.length) (Q:=(a0.take i).flatMap Edu.K.enc) rfl trivial rfl rfl Tryz.underlying40 Tryz.underlying3 u1 u2 u3 u4 rfl (by decide) (by omega) (by omega) hg (by omega) h4 rfl ?_ (ins_pre (Kd:=Edu.K) hi hA) nofun (fun w hw=>?_)
  ·
   rw [fl]; have:=ml (Nat.le_of_lt hlt); omega
  rcases w with ⟨b2,nc⟩
  replace hw:a0.length + a2.length≤nc:=hw
  refine as0 rfl rfl<|.fin ?_
  generalize hZ:(Builtin.zeroCells (Value.cells _) ((b2,nc).2 - i)).toList.map eq = Z
  have zz:Z.length = (nc - i) * Edu.K.sz:=by rw [← hZ,List.length_map,Array.length_toList,Builtin.zeroCells,Array.size_map,Array.size_range]; rfl
  have ft:((a0.take i).flatMap Edu.K.enc++Z).length = nc * Edu.K.sz:=by rw [List.length_append,flatMap_len,List.length_take,Nat.min_eq_left hi,zz,← Nat.add_mul]; congr 1; omega
  have s3:=ml hw
  have s4:i * Edu.K.sz + (a0.length - i) * Edu.K.sz = a0.length * Edu.K.sz:=by rw [← Nat.add_mul]; congr 1; omega
  refine WP.seq<|WP.reg [(0,false),(1,false),(2,false),(3,false),(4,true)] (by kernel_rfl)<|mv0 rfl rfl<|mv0 rfl rfl<|Dv.slkm (o':=i * Edu.K.sz) (m':=a0.length + a2.length - i) (c':=nc - i) rfl trivial rfl Tryz.underlying40 Tryz.underlying80 c80 (bdE_nat (m:=i) rfl) bdE_none (by omega) hw (.inl (Nat.lt_of_lt_of_le (by omega) hw)) (Nat.zero_add _) rfl rfl<|mv0 rfl rfl<|Dv.cpkn (jj:=0) (kk:=a2.length) rfl trivial rfl rfl Tryz.underlying40 Tryz.underlying80 c80 srcN_all (by omega) rfl ?_ nofun ?_
  ·
   rw [ft,fy]; omega
  refine .fin ?_
  have l1:(spl ((a0.take i).flatMap Edu.K.enc++Z) (i * Edu.K.sz) (a2.flatMap Edu.K.enc)).length = nc * Edu.K.sz:=by rw [spl_len (by rw [ft,fy]; omega),ft]
  refine WP.seq<|WP.dreg Tryz.checked.mixed [(0,false),(1,false),(2,false),(3,false),(4,false),(5,false),(6,false),(7,false),(8,true)] (by kernel_rfl)<|mv0 rfl rfl<|mv0 rfl rfl<|mv0 rfl rfl<|bn0 rfl rfl rfl (run_addn (a:=i) (b:=a2.length) (by omega))<|Dv.slkm (o':=(i + a2.length) * Edu.K.sz) (m':=a0.length - i) (c':=nc - (i + a2.length)) rfl trivial rfl Tryz.underlying40 Tryz.underlying80 c80 (bdE_nat (m:=i + a2.length) rfl) bdE_none (by omega) hw (.inl (Nat.lt_of_lt_of_le (by omega) hw)) (Nat.zero_add _) (by omega) rfl<|mv0 rfl rfl<|mv0 rfl rfl<|Dv.slkm (o':=off + i * Edu.K.sz) (m':=a0.length - i) (c':=c - i) rfl trivial rfl Tryz.underlying40 Tryz.underlying80 c80 (bdE_nat (m:=i) rfl) bdE_none hi hc (.inl (by omega)) rfl rfl rfl<|Dv.cpkn (jj:=0) (kk:=a0.length - i) rfl trivial rfl rfl Tryz.underlying40 Tryz.underlying80 c80 (srcN_own (mem_at 1 rfl) hi hA) (Nat.min_self _) rfl ?_ (fun _=>pend_bits (by kernel_rfl)) ?_
  ·
   rw [l1,fd]; omega
  refine .fin ?_
  have l2:(spl (spl ((a0.take i).flatMap Edu.K.enc++Z) (i * Edu.K.sz) (a2.flatMap Edu.K.enc)) ((i + a2.length) * Edu.K.sz) ((a0.drop i).flatMap Edu.K.enc)).length = nc * Edu.K.sz:=by rw [spl_len (by rw [l1,fd]; omega),l1]
  refine WP.seq<|WP.reg [(0,false),(1,false)] (by kernel_rfl)<|mv0 rfl rfl<|as0 rfl rfl<|.fin<|wg (st_blk_own (Kd:=Edu.K) (off:=0) (n:=a0.length + a2.length) (c:=nc) (zs:=a0.take i++a2++a0.drop i) 0 rfl zl hw (by rw [l2]; omega) (ins_new hi)) fun _ _=>?_
  exact rt i2 rfl (⟨.slice (some ⟨b2,0,none⟩) (a0.length + a2.length) nc,rfl⟩:OV) 2 [1,0] 1 (.cons (res_tmp rfl) .nil)
 have hg:a0.length + a2.length≤c:=by have:=of_decide_eq_false c2; omega
 refine WP.skip ?_
 have s3:=ml hg
 refine WP.seq<|WP.reg [(0,false),(1,false),(2,false),(3,false),(4,false),(5,false)] (by kernel_rfl)<|mv0 rfl rfl<|mv0 rfl rfl<|mv0 rfl rfl<|bn0 rfl rfl rfl (run_addn (a:=a0.length) (b:=a2.length) (by omega))<|Dv.slkm (o':=off) (m':=a0.length + a2.length) (c':=c) rfl trivial rfl Tryz.underlying40 Tryz.underlying80 c80 bdE_none (bdE_nat (m:=a0.length + a2.length) rfl) (Nat.zero_le _) hg (.inr rfl) (by simp) (by simp) (by simp)<|as0 rfl rfl<|.fin<|WP.seq<|WP.seq<|WP.reg [(0,false),(1,false),(2,false),(3,false),(4,false),(5,false),(6,false),(7,false)] (by kernel_rfl)<|mv0 rfl rfl<|mv0 rfl rfl<|mv0 rfl rfl<|mv0 rfl rfl<|bn0 rfl rfl rfl (run_addn (a:=i) (b:=a2.length) (by omega))<|Dv.slkm (o':=off + (i + a2.length) * Edu.K.sz) (m':=a0.length - i) (c':=c - (i + a2.length)) rfl trivial rfl Tryz.underlying40 Tryz.underlying80 c80 (bdE_nat (m:=i + a2.length) rfl) bdE_none (by omega) hg (.inl (Nat.lt_of_lt_of_le (by omega) hg)) rfl (by omega) rfl<|Dv.ovl rfl trivial rfl rfl (mem_at 0 rfl) h2 hsz Tryz.func261 (by kernel_rfl) rfl xf261 xg261 rfl Tryz.underlying40 Tryz.underlying80<|un0 rfl rfl (run_not _)<|.fin<|WP.cond rfl (fun c3=>?_) (fun c3=>by cases c3)
 refine WP.seq<|WP.dreg Tryz.checked.mixed [(0,false),(1,false),(2,false),(3,false),(4,false),(5,false),(6,false),(7,false),(8,true)] (by kernel_rfl)<|mv0 rfl rfl<|mv0 rfl rfl<|mv0 rfl rfl<|bn0 rfl rfl rfl (run_addn (a:=i) (b:=a2.length) (by omega))<|Dv.slkm (o':=off + (i + a2.length) * Edu.K.sz) (m':=a0.length - i) (c':=c - (i + a2.length)) rfl trivial rfl Tryz.underlying40 Tryz.underlying80 c80 (bdE_nat (m:=i + a2.length) rfl) bdE_none (by omega) hg (.inl (Nat.lt_of_lt_of_le (by omega) hg)) rfl (by omega) rfl<|mv0 rfl rfl<|mv0 rfl rfl<|Dv.slkm (o':=off + i * Edu.K.sz) (m':=a0.length + a2.length - i) (c':=c - i) rfl trivial rfl Tryz.underlying40 Tryz.underlying80 c80 (bdE_nat (m:=i) rfl) bdE_none (by omega) hg (.inl (by omega)) rfl rfl rfl<|Dv.cpkn (jj:=0) (kk:=a0.length - i) rfl trivial rfl rfl Tryz.underlying40 Tryz.underlying80 c80 (srcN_own (mem_at 0 rfl) hi hA) (by omega) rfl ?_ (fun _=>pend_bits (by kernel_rfl)) ?_
 ·
  rw [fd]; omega
 refine .fin ?_
 have l1:(spl (A++a0.flatMap Edu.K.enc++C) (off + (i + a2.length) * Edu.K.sz) ((a0.drop i).flatMap Edu.K.enc)).length = (A++a0.flatMap Edu.K.enc++C).length:=spl_len (by rw [fd]; omega)
 refine WP.seq<|WP.reg [(0,false),(1,false),(2,false),(3,false),(4,true)] (by kernel_rfl)<|mv0 rfl rfl<|mv0 rfl rfl<|Dv.slkm (o':=off + i * Edu.K.sz) (m':=a0.length + a2.length - i) (c':=c - i) rfl trivial rfl Tryz.underlying40 Tryz.underlying80 c80 (bdE_nat (m:=i) rfl) bdE_none (by omega) hg (.inl (by omega)) rfl rfl rfl<|mv0 rfl rfl<|Dv.cpkn (jj:=0) (kk:=a2.length) rfl trivial rfl rfl Tryz.underlying40 Tryz.underlying80 c80 srcN_all (by omega) rfl ?_ nofun ?_
 ·
  rw [l1,fy]; omega
 refine .fin<|WP.seq<|WP.reg [(0,false),(1,false)] (by kernel_rfl)<|mv0 rfl rfl<|as0 rfl rfl<|.fin<|wg (st_blk_own (Kd:=Edu.K) (off:=off) (n:=a0.length + a2.length) (c:=c) (zs:=a0.take i++a2++a0.drop i) 0 rfl zl hg (by rw [spl_len (by rw [l1,fy]; omega),l1]; exact hlen) (ins_old hi hA (by omega))) fun _ _=>?_
 exact rt i2 rfl (⟨.slice (some ⟨b,off,none⟩) (a0.length + a2.length) c,rfl⟩:OV) 1 [0] 0 (.cons (res_tmp rfl) .nil)
theorem heap_Heap_set.c {a0:HHeap} {a1:Int} {a2:HEnt} {p0_:OV} {r:HHeap} (h:heap_Heap_set.f a0 a1 a2 = some r):Tr Tryz.prog 263 [eq p0_.1,vI a1,agg (HEnt.enc a2)] [HHeap.O p0_ a0] (γ:=Unit) (fun _=>True) (fun g=>tup []) (fun g=>[HHeap.O p0_ r]):=by
 unfold heap_Heap_set.f at h
 refine tb Tryz.func263 Tryz.ntmps263 h fun R0 F H=>?_
 refine WP.seq<|rg 1 1<|Dv.box rfl trivial rfl cA nofun fun b1078=>.fin<|WP.seq<|wg (HHeap.opn 1 rfl) fun g1079 h1080=>?_
 refine dg Tryz.checked.mixed 8 128<|mv0 rfl rfl<|Dv.nilpp h1080 rfl trivial rfl<|fp h1080 rfl trivial rfl fa206_0<|ld 0 rfl trivial rfl sc204 rfl rfl<|mv0 rfl rfl<|lds 3 rfl trivial rfl sg376 rfl rfl<|gr H fun g1081 H=>?_
 have h1082:a1.toNat < a0.fl.length:=idx_lt g1081
 refine Dv.ixw rfl trivial rfl (mem_at 1 rfl) rfl Tryz.underlying204 Tryz.underlying376 c376 g1081.1 g1081.2<|Dv.stw (j:=a1.toNat) (f:=0) (jj:=1) a2 rfl trivial rfl rfl (cells_agg (HEnt.K.one _)) Tryz.underlying376 c376 rfl rfl h1082 (Nat.le_of_ble_eq_true rfl) rfl (fun _=>pend_bits (by kernel_rfl))<|.fin<|dg Tryz.checked.mixed 8 128<|mv0 rfl rfl<|Dv.nilpp h1080 rfl trivial rfl<|fp h1080 rfl trivial rfl fa206_1<|ld 0 rfl trivial rfl sc139 rfl rfl<|fb rfl trivial rfl fa376_1<|ld 3 rfl trivial rfl sc9 rfl rfl<|mv0 rfl rfl<|Dv.mup (jj:=2) a1 rfl trivial rfl rfl rfl rfl Tryz.underlying139 (keyOk_str Tryz.underlying9) (fun _=>pend_bits (by kernel_rfl))<|.fin<|ng (HHeap.shut (p:=p0_) (m:=(⟨a0.fl.set a1.toNat a2,mput a0.fat a2.fKey a1⟩:HHeap)) (g1079.1,g1079.2.1,g1079.2.2) h1080 (pm 4 [0,1,2,3])) fun _ _=>?_
 obtain rfl:=Gets.out H
 exact re rfl () 2 [1,0] 1 .nil
theorem heap_ahead.c {k:Nat} {a0:HEnt} {a1:HEnt} {r:Int} (h:heap_ahead.f k a0 a1 = some r):Pt Tryz.prog 285 [agg (HEnt.enc a0),agg (HEnt.enc a1)] (vI r):=by
 unfold heap_ahead.f at h
 refine pb Tryz.func285 Tryz.ntmps285 h fun R0 F H=>?_
 refine WP.seq<|rg 3 3<|Dv.box rfl trivial rfl cA nofun fun b1083=>Dv.box rfl trivial rfl cA nofun fun b1084=>as0 rfl rfl<|.fin<|WP.seq<|dg Tryz.checked.mixed 13 0<|fb rfl trivial rfl fa376_0<|ld 1 rfl trivial rfl sc3 rfl rfl<|fb rfl trivial rfl fa376_0<|ld 0 rfl trivial rfl sc3 rfl rfl<|el H fun t1085 h1086 H=>cl rfl cal197 rfl (cmp_Compare_int.c h1086)<|fb rfl trivial rfl fa376_1<|ld 1 rfl trivial rfl sc9 rfl rfl<|fb rfl trivial rfl fa376_1<|ld 0 rfl trivial rfl sc9 rfl rfl<|el H fun t1087 h1088 H=>cl rfl cal196 rfl (cmp_Compare_string.c h1088)<|Dv.lit (intK .i64) ([t1085,t1087]:List Int) (css:=[[vI t1085],[vI t1087]]) rfl trivial Tryz.underlying24 Tryz.underlying3 c3 z3 rfl (by decide) (by decide) rfl ⟨(cells_one (one_eq rfl)),⟨(cells_one (one_eq rfl)),trivial⟩⟩ rfl rfl rfl<|el H fun t1089 h1090 H=>cl rfl cal195 rfl (cmp_Or_int.c h1090)<|as0 rfl rfl<|.fin ?_
 cases H.out; exact r2 i2 rfl (.cons (res_tmp rfl) .nil)
theorem heap_Heap_down.c {k:Nat} {a0:HHeap} {a1:Int} {p0_:OV} {r:HHeap} (h:heap_Heap_down.f k a0 a1 = some r):Tr Tryz.prog 264 [eq p0_.1,vI a1] [HHeap.O p0_ a0] (γ:=Unit) (fun _=>True) (fun g=>tup []) (fun g=>[HHeap.O p0_ r]):=by
 unfold heap_Heap_down.f at h
 refine tb Tryz.func264 Tryz.ntmps264 h fun R0 F H=>?_
 refine WP.seq<|rg 9 384<|mv0 rfl rfl<|Dv.nilA HHeap.nn rfl trivial rfl (mem_at 0 rfl)<|vg (HHeap.opn 0 rfl) fun g1091 h1092=>?_
 refine fp h1092 rfl trivial rfl fa206_0<|ld 0 rfl trivial rfl sc204 rfl rfl<|mv0 rfl rfl<|gr H fun g1093 H=>?_
 have h1094:a1.toNat < a0.fl.length:=idx_lt g1093
 refine Dv.ixw rfl trivial rfl (mem_at 1 rfl) rfl Tryz.underlying204 Tryz.underlying376 c376 g1093.1 g1093.2<|Dv.ldws (j:=a1.toNat) (f:=0) rfl trivial rfl (mem_at 1 rfl) h1094 Tryz.underlying376 rfl c376 (Nat.le_of_ble_eq_true rfl)<|al rfl trivial zc376 nofun fun b1095=>sx 0 rfl trivial rfl rfl cA sz376 rfl rfl rfl nofun ?_
 refine .fin<|WP.seqn H id (fun p1096:Int×Int×Bool×Bool×HHeap=>[(0,eq p0_.1),(1,vI p1096.1),(4,eq (.pointer (some ⟨b1095,0,none⟩)))]) (fun p1096:Int×Int×Bool×Bool×HHeap=>[blk b1095 376 (HEnt.enc (a0.fl.getD a1.toNat default)),HHeap.O p0_ p1096.2.2.2.2]++F) (fun p1096 H=>?_) (fun H=>?_)
 ·
  refine rg 4 8<|mv0 rfl rfl<|mv0 rfl rfl<|lds 0 rfl trivial rfl sg376 rfl rfl<|el H fun t1097 h1098 H=>cx 2 [1,0] cal263 (heap_Heap_set.c h1098 (p0_:=p0_)) nofun fun _ _=>?_
  refine .fin ?_
  obtain rfl:=Gets.out H
  exact re rfl () 2 [1,0] 1 .nil
 refine WP.block<|wg (HHeap.shut (p:=p0_) (m:=a0) (g1091.1,g1091.2.1,g1091.2.2) h1092 (pm 4 [1,2,3,0])) fun _ _=>?_
 refine wg (sg 2 [1,0] 0) fun _ _=>?_
 refine lp (fun j_ (p1127:Int×HHeap)=>heap_Heap_down.l0 k a0 a1 j_ p1127.1 p1127.2) (a1,a0) H (fun p1127=>[(0,eq p0_.1),(1,vI p1127.1),(4,eq (.pointer (some ⟨b1095,0,none⟩)))]) (fun p1127=>[blk b1095 376 (HEnt.enc (a0.fl.getD a1.toNat default)),HHeap.O p0_ p1127.2]++F) ?_
 rintro j_ ⟨x1099,x1100⟩ H
 rcases j_ with _ | j1126
 ·
  exact (Gets.no H).elim
 try dsimp only at H
 rw [heap_Heap_down.l0] at H
 refine WP.block<|WP.seq<|rg 4 0<|mv0 rfl rfl<|bn0 rfl rfl rfl run_mul<|bn0 rfl rfl rfl run_add<|as0 rfl rfl<|.fin<|WP.seqn H id (fun p1101:Int×Bool=>[(0,eq p0_.1),(1,vI x1099),(4,eq (.pointer (some ⟨b1095,0,none⟩))),(5,vI p1101.1)]) (fun p1101:Int×Bool=>[blk b1095 376 (HEnt.enc (a0.fl.getD a1.toNat default)),HHeap.O p0_ x1100]++F) (fun p1101 H=>?_) (fun H=>?_)
 ·
  refine WP.seq<|WP.seq<|wg (HHeap.opn 1 rfl) fun g1102 h1103=>?_
  refine dg Tryz.checked.mixed 19 0<|mv0 rfl rfl<|mv0 rfl rfl<|Dv.nilpp h1103 rfl trivial rfl<|fp h1103 rfl trivial rfl fa206_0<|ld 0 rfl trivial rfl sc204 rfl rfl<|Dv.lenw rfl trivial rfl (mem_at 1 rfl) Tryz.underlying204<|bn0 rfl rfl rfl run_ge<|mv0 rfl rfl ?_
  cases c1104:decide ((x1100.fl.length:Int)≤p1101.1)
  rotate_left
  ·
   have H:=H.ct c1104
   refine sk rfl rfl<|sk rfl rfl<|sk rfl rfl<|sk rfl rfl<|sk rfl rfl<|sk rfl rfl<|sk rfl rfl<|sk rfl rfl<|sk rfl rfl<|sk rfl rfl<|pt0 rfl rfl rfl<|.fin<|WP.cond rfl (fun _=>?_) nofun
   refine WP.exit ?_
   have H:=H.out
   refine ng (HHeap.shut (p:=p0_) (m:=x1100) (g1102.1,g1102.2.1,g1102.2.2) h1103 (pm 4 [0,1,2,3])) fun _ _=>?_
   refine ng (sg 2 [1,0] 0) fun _ _=>?_
   exact jn (x1099,p1101.1,p1101.2,true,x1100) H
  have H:=H.cf c1104
  refine lds 3 rfl (gg rfl) rfl sg376 rfl rfl<|mvg rfl rfl rfl<|Dv.nilpp h1103 rfl (gg rfl) rfl<|fp h1103 rfl (gg rfl) rfl fa206_0<|ld 0 rfl (gg rfl) rfl sc204 rfl rfl<|mvg rfl rfl rfl<|gr H fun g1106 H=>?_
  have h1107:p1101.1.toNat < x1100.fl.length:=idx_lt g1106
  refine Dv.ixw rfl (gg rfl) rfl (mem_at 1 rfl) rfl Tryz.underlying204 Tryz.underlying376 c376 g1106.1 g1106.2<|Dv.ldws (j:=p1101.1.toNat) (f:=0) rfl (gg rfl) rfl (mem_at 1 rfl) h1107 Tryz.underlying376 rfl c376 (Nat.le_of_ble_eq_true rfl)<|el H fun t1108 h1109 H=>Dv.call rfl (gg rfl) cal285 rfl (heap_ahead.c h1109)<|bng rfl rfl rfl rfl run_lt<|pf0 rfl rfl rfl<|.fin<|cd H rfl (fun _ H=>?_) (fun _ H=>?_)
  ·
   refine WP.exit ?_
   have H:=H.out
   refine ng (HHeap.shut (p:=p0_) (m:=x1100) (g1102.1,g1102.2.1,g1102.2.2) h1103 (pm 4 [0,1,2,3])) fun _ _=>?_
   refine ng (sg 2 [1,0] 0) fun _ _=>?_
   exact jn (x1099,p1101.1,p1101.2,decide (t1108 < 0),x1100) H
  refine WP.skip<|WP.seq<|rg 10 512<|mv0 rfl rfl<|mv0 rfl rfl<|mv0 rfl rfl<|Dv.nilpp h1103 rfl trivial rfl<|fp h1103 rfl trivial rfl fa206_0<|ld 0 rfl trivial rfl sc204 rfl rfl<|mv0 rfl rfl<|gr H fun g1111 H=>?_
  have h1112:p1101.1.toNat < x1100.fl.length:=idx_lt g1111
  refine Dv.ixw rfl trivial rfl (mem_at 1 rfl) rfl Tryz.underlying204 Tryz.underlying376 c376 g1111.1 g1111.2<|Dv.ldws (j:=p1101.1.toNat) (f:=0) rfl trivial rfl (mem_at 1 rfl) h1112 Tryz.underlying376 rfl c376 (Nat.le_of_ble_eq_true rfl)<|vg (HHeap.shut (p:=p0_) (m:=x1100) (g1102.1,g1102.2.1,g1102.2.2) h1103 (pm 4 [0,1,2,3])) fun _ _=>?_
  refine el H fun t1113 h1114 H=>cx 2 [0,1] cal263 (heap_Heap_set.c h1114 (p0_:=p0_)) nofun fun _ _=>?_
  refine .fin<|rg 2 0<|mv0 rfl rfl<|as0 rfl rfl<|.fin<|ng (sg 2 [1,0] 0) fun _ _=>?_
  exact bk j1126 (p1101.1,t1113) H
 refine WP.seq<|wg (HHeap.opn 1 rfl) fun g1115 h1116=>?_
 refine dg Tryz.checked.mixed 27 0<|mv0 rfl rfl<|bn0 rfl rfl rfl run_add<|mv0 rfl rfl<|Dv.nilpp h1116 rfl trivial rfl<|fp h1116 rfl trivial rfl fa206_0<|ld 0 rfl trivial rfl sc204 rfl rfl<|Dv.lenw rfl trivial rfl (mem_at 1 rfl) Tryz.underlying204<|bn0 rfl rfl rfl run_lt<|mv0 rfl rfl ?_
 cases c1117:decide ((w64 ((w64 ((w64 (2 * x1099)) + 1)) + 1)) < (x1100.fl.length:Int))
 ·
  have H:=H.cf c1117
  refine sk rfl rfl<|sk rfl rfl<|sk rfl rfl<|sk rfl rfl<|sk rfl rfl<|sk rfl rfl<|sk rfl rfl<|sk rfl rfl<|sk rfl rfl<|sk rfl rfl<|sk rfl rfl<|sk rfl rfl<|sk rfl rfl<|sk rfl rfl<|sk rfl rfl<|sk rfl rfl<|sk rfl rfl<|pf0 rfl rfl rfl<|.fin<|WP.cond rfl nofun (fun _=>?_)
  refine WP.skip ?_
  have H:=H.out
  refine ng (HHeap.shut (p:=p0_) (m:=x1100) (g1115.1,g1115.2.1,g1115.2.2) h1116 (pm 4 [0,1,2,3])) fun _ _=>?_
  refine ng (sg 2 [1,0] 0) fun _ _=>?_
  exact jn (w64 ((w64 (2 * x1099)) + 1),false) H
 have H:=H.ct c1117
 refine mvg rfl rfl rfl<|Dv.nilpp h1116 rfl (gg rfl) rfl<|fp h1116 rfl (gg rfl) rfl fa206_0<|ld 0 rfl (gg rfl) rfl sc204 rfl rfl<|mvg rfl rfl rfl<|bng rfl rfl rfl rfl run_add<|gr H fun g1118 H=>?_
 have h1119:(w64 ((w64 ((w64 (2 * x1099)) + 1)) + 1)).toNat < x1100.fl.length:=idx_lt g1118
 refine Dv.ixw rfl (gg rfl) rfl (mem_at 1 rfl) rfl Tryz.underlying204 Tryz.underlying376 c376 g1118.1 g1118.2<|Dv.ldws (j:=((w64 ((w64 ((w64 (2 * x1099)) + 1)) + 1)).toNat)) (f:=0) rfl (gg rfl) rfl (mem_at 1 rfl) h1119 Tryz.underlying376 rfl c376 (Nat.le_of_ble_eq_true rfl)<|mvg rfl rfl rfl<|Dv.nilpp h1116 rfl (gg rfl) rfl<|fp h1116 rfl (gg rfl) rfl fa206_0<|ld 0 rfl (gg rfl) rfl sc204 rfl rfl<|mvg rfl rfl rfl<|gr H fun g1120 H=>?_
 have h1121:(w64 ((w64 (2 * x1099)) + 1)).toNat < x1100.fl.length:=idx_lt g1120
 refine Dv.ixw rfl (gg rfl) rfl (mem_at 1 rfl) rfl Tryz.underlying204 Tryz.underlying376 c376 g1120.1 g1120.2<|Dv.ldws (j:=((w64 ((w64 (2 * x1099)) + 1)).toNat)) (f:=0) rfl (gg rfl) rfl (mem_at 1 rfl) h1121 Tryz.underlying376 rfl c376 (Nat.le_of_ble_eq_true rfl)<|el H fun t1122 h1123 H=>Dv.call rfl (gg rfl) cal285 rfl (heap_ahead.c h1123)<|bng rfl rfl rfl rfl run_lt<|pt0 rfl rfl rfl<|.fin<|cd H rfl (fun _ H=>?_) (fun _ H=>?_)
 rotate_left
 ·
  refine WP.skip ?_
  have H:=H.out
  refine ng (HHeap.shut (p:=p0_) (m:=x1100) (g1115.1,g1115.2.1,g1115.2.2) h1116 (pm 4 [0,1,2,3])) fun _ _=>?_
  refine ng (sg 2 [1,0] 0) fun _ _=>?_
  exact jn (w64 ((w64 (2 * x1099)) + 1),decide (t1122 < 0)) H
 refine rg 3 0<|mv0 rfl rfl<|bn0 rfl rfl rfl run_add<|as0 rfl rfl<|.fin ?_
 have H:=H.out
 refine ng (HHeap.shut (p:=p0_) (m:=x1100) (g1115.1,g1115.2.1,g1115.2.2) h1116 (pm 4 [0,1,2,3])) fun _ _=>?_
 refine ng (sg 2 [1,0] 0) fun _ _=>?_
 exact jn (w64 ((w64 ((w64 (2 * x1099)) + 1)) + 1),decide (t1122 < 0)) H
theorem heap_Heap_up.c {k:Nat} {a0:HHeap} {a1:Int} {p0_:OV} {r:HHeap} (h:heap_Heap_up.f k a0 a1 = some r):Tr Tryz.prog 265 [eq p0_.1,vI a1] [HHeap.O p0_ a0] (γ:=Unit) (fun _=>True) (fun g=>tup []) (fun g=>[HHeap.O p0_ r]):=by
 unfold heap_Heap_up.f at h
 refine tb Tryz.func265 Tryz.ntmps265 h fun R0 F H=>?_
 refine WP.seq<|rg 9 384<|mv0 rfl rfl<|Dv.nilA HHeap.nn rfl trivial rfl (mem_at 0 rfl)<|vg (HHeap.opn 0 rfl) fun g1128 h1129=>?_
 refine fp h1129 rfl trivial rfl fa206_0<|ld 0 rfl trivial rfl sc204 rfl rfl<|mv0 rfl rfl<|gr H fun g1130 H=>?_
 have h1131:a1.toNat < a0.fl.length:=idx_lt g1130
 refine Dv.ixw rfl trivial rfl (mem_at 1 rfl) rfl Tryz.underlying204 Tryz.underlying376 c376 g1130.1 g1130.2<|Dv.ldws (j:=a1.toNat) (f:=0) rfl trivial rfl (mem_at 1 rfl) h1131 Tryz.underlying376 rfl c376 (Nat.le_of_ble_eq_true rfl)<|al rfl trivial zc376 nofun fun b1132=>sx 0 rfl trivial rfl rfl cA sz376 rfl rfl rfl nofun ?_
 refine .fin<|WP.seqn H id (fun p1133:Int×Bool×HHeap=>[(0,eq p0_.1),(1,vI p1133.1),(4,eq (.pointer (some ⟨b1132,0,none⟩)))]) (fun p1133:Int×Bool×HHeap=>[blk b1132 376 (HEnt.enc (a0.fl.getD a1.toNat default)),HHeap.O p0_ p1133.2.2]++F) (fun p1133 H=>?_) (fun H=>?_)
 ·
  refine rg 4 8<|mv0 rfl rfl<|mv0 rfl rfl<|lds 0 rfl trivial rfl sg376 rfl rfl<|el H fun t1134 h1135 H=>cx 2 [1,0] cal263 (heap_Heap_set.c h1135 (p0_:=p0_)) nofun fun _ _=>?_
  refine .fin ?_
  obtain rfl:=Gets.out H
  exact re rfl () 2 [1,0] 1 .nil
 refine WP.block<|wg (HHeap.shut (p:=p0_) (m:=a0) (g1128.1,g1128.2.1,g1128.2.2) h1129 (pm 4 [1,2,3,0])) fun _ _=>?_
 refine wg (sg 2 [1,0] 0) fun _ _=>?_
 refine lp (fun j_ (p1152:Int×HHeap)=>heap_Heap_up.l0 k a0 a1 j_ p1152.1 p1152.2) (a1,a0) H (fun p1152=>[(0,eq p0_.1),(1,vI p1152.1),(4,eq (.pointer (some ⟨b1132,0,none⟩)))]) (fun p1152=>[blk b1132 376 (HEnt.enc (a0.fl.getD a1.toNat default)),HHeap.O p0_ p1152.2]++F) ?_
 rintro j_ ⟨x1136,x1137⟩ H
 rcases j_ with _ | j1151
 ·
  exact (Gets.no H).elim
 try dsimp only at H
 rw [heap_Heap_up.l0] at H
 refine WP.seq<|WP.seq<|wg (HHeap.opn 1 rfl) fun g1138 h1139=>?_
 refine dg Tryz.checked.mixed 16 0<|mv0 rfl rfl<|bn0 rfl rfl rfl run_gt<|mv0 rfl rfl ?_
 cases c1140:decide (0 < x1136)
 ·
  have H:=H.cf c1140
  refine sk rfl rfl<|sk rfl rfl<|sk rfl rfl<|sk rfl rfl<|sk rfl rfl<|sk rfl rfl<|sk rfl rfl<|sk rfl rfl<|sk rfl rfl<|sk rfl rfl<|sk rfl rfl<|sk rfl rfl<|pf0 rfl rfl rfl<|.fin<|WP.cond rfl nofun (fun _=>?_)
  refine WP.exit ?_
  have H:=H.out
  refine ng (HHeap.shut (p:=p0_) (m:=x1137) (g1138.1,g1138.2.1,g1138.2.2) h1139 (pm 4 [0,1,2,3])) fun _ _=>?_
  refine ng (sg 2 [1,0] 0) fun _ _=>?_
  exact jn (x1136,false,x1137) H
 have H:=H.ct c1140
 refine lds 3 rfl (gg rfl) rfl sg376 rfl rfl<|mvg rfl rfl rfl<|Dv.nilpp h1139 rfl (gg rfl) rfl<|fp h1139 rfl (gg rfl) rfl fa206_0<|ld 0 rfl (gg rfl) rfl sc204 rfl rfl<|mvg rfl rfl rfl<|bng rfl rfl rfl rfl run_sub<|bng rfl rfl rfl rfl (run_quo (by decide))<|gr H fun g1141 H=>?_
 have h1142:(w64 ((w64 (x1136 - 1)).tdiv 2)).toNat < x1137.fl.length:=idx_lt g1141
 refine Dv.ixw rfl (gg rfl) rfl (mem_at 1 rfl) rfl Tryz.underlying204 Tryz.underlying376 c376 g1141.1 g1141.2<|Dv.ldws (j:=((w64 ((w64 (x1136 - 1)).tdiv 2)).toNat)) (f:=0) rfl (gg rfl) rfl (mem_at 1 rfl) h1142 Tryz.underlying376 rfl c376 (Nat.le_of_ble_eq_true rfl)<|el H fun t1143 h1144 H=>Dv.call rfl (gg rfl) cal285 rfl (heap_ahead.c h1144)<|bng rfl rfl rfl rfl run_lt<|pt0 rfl rfl rfl<|.fin<|cd H rfl (fun _ H=>?_) (fun _ H=>?_)
 rotate_left
 ·
  refine WP.exit ?_
  have H:=H.out
  refine ng (HHeap.shut (p:=p0_) (m:=x1137) (g1138.1,g1138.2.1,g1138.2.2) h1139 (pm 4 [0,1,2,3])) fun _ _=>?_
  refine ng (sg 2 [1,0] 0) fun _ _=>?_
  exact jn (x1136,decide (t1143 < 0),x1137) H
 refine WP.skip<|WP.block<|WP.seq<|rg 12 2048<|mv0 rfl rfl<|mv0 rfl rfl<|mv0 rfl rfl<|Dv.nilpp h1139 rfl trivial rfl<|fp h1139 rfl trivial rfl fa206_0<|ld 0 rfl trivial rfl sc204 rfl rfl<|mv0 rfl rfl<|bn0 rfl rfl rfl run_sub<|bn0 rfl rfl rfl (run_quo (by decide))<|gr H fun g1146 H=>?_
 have h1147:(w64 ((w64 (x1136 - 1)).tdiv 2)).toNat < x1137.fl.length:=idx_lt g1146
 refine Dv.ixw rfl trivial rfl (mem_at 1 rfl) rfl Tryz.underlying204 Tryz.underlying376 c376 g1146.1 g1146.2<|Dv.ldws (j:=((w64 ((w64 (x1136 - 1)).tdiv 2)).toNat)) (f:=0) rfl trivial rfl (mem_at 1 rfl) h1147 Tryz.underlying376 rfl c376 (Nat.le_of_ble_eq_true rfl)<|vg (HHeap.shut (p:=p0_) (m:=x1137) (g1138.1,g1138.2.1,g1138.2.2) h1139 (pm 4 [0,1,2,3])) fun _ _=>?_
 refine el H fun t1148 h1149 H=>cx 2 [0,1] cal263 (heap_Heap_set.c h1149 (p0_:=p0_)) nofun fun _ _=>?_
 refine .fin<|rg 4 0<|mv0 rfl rfl<|bn0 rfl rfl rfl run_sub<|bn0 rfl rfl rfl (run_quo (by decide))<|as0 rfl rfl<|.fin<|ng (sg 2 [1,0] 0) fun _ _=>?_
 exact bk j1151 (w64 ((w64 (x1136 - 1)).tdiv 2),t1148) H
theorem heap_Heap_Drop.c {k:Nat} {a0:HHeap} {a1:ByteArray} {p0_:OV} {r:Bool×HHeap} (h:heap_Heap_Drop.f k a0 a1 = some r):Tr Tryz.prog 211 [eq p0_.1,vS a1] [HHeap.O p0_ a0] (γ:=Unit) (fun _=>True) (fun g=>vB r.1) (fun g=>[HHeap.O p0_ r.2]):=by
 unfold heap_Heap_Drop.f at h
 refine tb Tryz.func211 Tryz.ntmps211 h fun R0 F H=>?_
 refine WP.seq<|rg 1 0<|as0 rfl rfl<|.fin<|WP.seq<|rg 11 0<|mv0 rfl rfl<|Dv.nilA HHeap.nn rfl trivial rfl (mem_at 0 rfl)<|vg (HHeap.opn 0 rfl) fun g1153 h1154=>?_
 refine fp h1154 rfl trivial rfl fa206_1<|ld 0 rfl trivial rfl sc139 rfl rfl<|mv0 rfl rfl<|Dv.mlk 0 rfl trivial rfl (mem_at 2 rfl) rfl Tryz.underlying139 (keyOk_str Tryz.underlying9) z3 (fun _=>rfl)<|mv0 rfl rfl<|ex0 rfl trivial rfl rfl<|ex0 rfl trivial rfl rfl<|as0 rfl rfl<|as0 rfl rfl<|.fin<|WP.seq<|WP.seq<|rg 2 0<|mv0 rfl rfl<|un0 rfl rfl (run_not _)<|.fin<|cd H rfl (fun _ H=>?_) (fun _ H=>?_)
 ·
  refine WP.seq<|rg 1 0<|as0 rfl rfl<|.fin<|wg (HHeap.shut (p:=p0_) (m:=a0) (g1153.1,g1153.2.1,g1153.2.2) h1154 (pm 3 [0,1,2])) fun _ _=>?_
  cases H.out; exact rt i2 rfl () 1 [0] 0 (.cons (res_tmp rfl) .nil)
 refine WP.skip<|WP.seq<|rg 6 32<|mv0 rfl rfl<|Dv.nilpp h1154 rfl trivial rfl<|fp h1154 rfl trivial rfl fa206_1<|ld 0 rfl trivial rfl sc139 rfl rfl<|mv0 rfl rfl<|Dv.mdl (jj:=2) rfl trivial rfl rfl rfl Tryz.underlying139 (keyOk_str Tryz.underlying9) nofun<|.fin<|WP.seq<|rg 7 0<|mv0 rfl rfl<|Dv.nilpp h1154 rfl trivial rfl<|fp h1154 rfl trivial rfl fa206_0<|ld 0 rfl trivial rfl sc204 rfl rfl<|Dv.lenw rfl trivial rfl (mem_at 1 rfl) Tryz.underlying204<|bn0 rfl rfl rfl run_sub<|as0 rfl rfl<|.fin<|WP.seq<|rg 9 384<|mv0 rfl rfl<|Dv.nilpp h1154 rfl trivial rfl<|fp h1154 rfl trivial rfl fa206_0<|ld 0 rfl trivial rfl sc204 rfl rfl<|mv0 rfl rfl<|gr H fun g1156 H=>?_
 have h1157:(w64 ((a0.fl.length:Int) - 1)).toNat < a0.fl.length:=idx_lt g1156
 refine Dv.ixw rfl trivial rfl (mem_at 1 rfl) rfl Tryz.underlying204 Tryz.underlying376 c376 g1156.1 g1156.2<|Dv.ldws (j:=((w64 ((a0.fl.length:Int) - 1)).toNat)) (f:=0) rfl trivial rfl (mem_at 1 rfl) h1157 Tryz.underlying376 rfl c376 (Nat.le_of_ble_eq_true rfl)<|al rfl trivial zc376 nofun fun b1158=>sx 0 rfl trivial rfl rfl cA sz376 rfl rfl rfl nofun ?_
 refine .fin<|WP.seq<|rg 10 576<|mv0 rfl rfl<|mv0 rfl rfl<|Dv.nilpp h1154 rfl trivial rfl<|fp h1154 rfl trivial rfl fa206_0<|ld 1 rfl trivial rfl sc204 rfl rfl<|mv0 rfl rfl<|gr H fun g1159 H=>Dv.slo (jj:=2) rfl trivial rfl rfl Tryz.underlying204 Tryz.underlying376 c376 bdE_none (bdE_some rfl g1159.1) (.inl rfl) g1159.2.1 g1159.2.2 nofun (fun v1160=>?_)
 refine Dv.nilpp h1154 rfl trivial rfl<|fp h1154 rfl trivial rfl fa206_0<|sx 1 rfl trivial rfl rfl (cells_one one_ov) sz204 rfl rfl rfl nofun ?_
 refine .fin<|WP.seq<|WP.seq<|rg 3 0<|mv0 rfl rfl<|mv0 rfl rfl<|bn0 rfl rfl rfl run_lt<|.fin<|cd H rfl (fun _ H=>?_) (fun _ H=>?_)
 rotate_left
 ·
  refine WP.skip<|WP.seq<|rg 1 0<|as0 rfl rfl<|.fin<|wg (HHeap.shut (p:=p0_) (m:=(⟨(a0.fl.take ((w64 ((a0.fl.length:Int) - 1)).toNat)).drop 0,mdel a0.fat a1⟩:HHeap)) (g1153.1,v1160,g1153.2.2) h1154 (pm 4 [1,2,3,0])) fun _ _=>?_
  cases H.out; exact rt i2 rfl () 2 [1,0] 1 (.cons (res_tmp rfl) .nil)
 refine WP.seq<|rg 4 8<|mv0 rfl rfl<|mv0 rfl rfl<|lds 0 rfl trivial rfl sg376 rfl rfl<|vg (HHeap.shut (p:=p0_) (m:=(⟨(a0.fl.take ((w64 ((a0.fl.length:Int) - 1)).toNat)).drop 0,mdel a0.fat a1⟩:HHeap)) (g1153.1,v1160,g1153.2.2) h1154 (pm 4 [1,2,3,0])) fun _ _=>?_
 refine el H fun t1162 h1163 H=>cx 2 [0,1] cal263 (heap_Heap_set.c h1163 (p0_:=p0_)) nofun fun _ _=>?_
 refine .fin<|WP.seq<|rg 3 4<|mv0 rfl rfl<|mv0 rfl rfl<|el H fun t1164 h1165 H=>cx 2 [0,1] cal264 (heap_Heap_down.c h1165 (p0_:=p0_)) nofun fun _ _=>?_
 refine .fin<|wg (HHeap.opn 0 rfl) fun g1166 h1167=>?_
 refine dg Tryz.checked.mixed 9 256<|mv0 rfl rfl<|mv0 rfl rfl<|Dv.nilpp h1167 rfl trivial rfl<|fp h1167 rfl trivial rfl fa206_1<|ld 0 rfl trivial rfl sc139 rfl rfl<|fb rfl trivial rfl fa376_1<|ld 3 rfl trivial rfl sc9 rfl rfl<|Dv.mlv 0 rfl trivial rfl (mem_at 2 rfl) rfl Tryz.underlying139 (keyOk_str Tryz.underlying9) z3 (fun _=>rfl)<|el H fun t1168 h1169 H=>cx 4 [0,1,2,3] cal265 (Tr.pre (pre':=[blk g1166.1 206 [eq g1166.2.1.1,eq g1166.2.2.1],own HEnt.K g1166.2.1.1 t1164.fl,mp Value.string (fun x:Int=>vI x) g1166.2.2.1 t1164.fat]) (heap_Heap_up.c h1169 (p0_:=p0_)) (fun F R w=>HHeap.shut (p:=p0_) (m:=t1164) (r:=F) (g1166.1,g1166.2.1,g1166.2.2) h1167 (List.Perm.refl _) R w)) pC fun _ _=>?_
 refine .fin<|WP.seq<|rg 1 0<|as0 rfl rfl<|.fin ?_
 cases H.out; exact rt i2 rfl () 2 [1,0] 1 (.cons (res_tmp rfl) .nil)
theorem heap_Heap_Put.c {k:Nat} {a0:HHeap} {a1:Int} {a2:ByteArray} {p0_:OV} {r:HHeap} (h:heap_Heap_Put.f k a0 a1 a2 = some r):Tr Tryz.prog 212 [eq p0_.1,vI a1,vS a2] [HHeap.O p0_ a0] (γ:=Unit) (fun _=>True) (fun g=>tup []) (fun g=>[HHeap.O p0_ r]):=by
 unfold heap_Heap_Put.f at h
 refine tb Tryz.func212 Tryz.ntmps212 h fun R0 F H=>?_
 refine WP.seq<|rg 3 4<|mv0 rfl rfl<|mv0 rfl rfl<|el H fun t1170 h1171 H=>cx 1 [0] cal211 (heap_Heap_Drop.c h1171 (p0_:=p0_)) nofun fun _ _=>?_
 refine .fin<|WP.seq<|rg 13 4608<|mv0 rfl rfl<|mv0 rfl rfl<|Dv.nilA HHeap.nn rfl trivial rfl (mem_at 0 rfl)<|vg (HHeap.opn 0 rfl) fun g1172 h1173=>?_
 refine fp h1173 rfl trivial rfl fa206_0<|ld 0 rfl trivial rfl sc204 rfl rfl<|mv0 rfl rfl<|mv0 rfl rfl<|Dv.bld (qs:=[vI a1,vS a2]) (css:=[[vI a1],[vS a2]]) rfl trivial Tryz.underlying376 pl376 z376 rfl ⟨(cells_one (one_eq rfl)),⟨(cells_one (one_eq rfl)),trivial⟩⟩ rfl rfl<|Dv.lit HEnt.K ([(⟨a1,a2⟩:HEnt)]:List HEnt) (css:=[[vI a1,vS a2]]) rfl trivial Tryz.underlying204 Tryz.underlying376 c376 z376 rfl (by decide) (by decide) rfl ⟨(cells_agg (ones_cons (one_eq rfl) (ones_cons (one_eq rfl) ones_nil))),trivial⟩ rfl rfl rfl<|gr H fun g1174 H=>ap HEnt.K 1 ([(⟨a1,a2⟩:HEnt)]:List HEnt) src_sl Tryz.underlying204 (.inr ⟨_,Tryz.underlying204⟩) inf376 g1174 nofun fun v1175=>?_
 refine Dv.nilpp h1173 rfl trivial rfl<|fp h1173 rfl trivial rfl fa206_0<|sx 0 rfl trivial rfl rfl (cells_one one_ov) sz204 rfl rfl rfl nofun ?_
 refine .fin<|rg 8 128<|mv0 rfl rfl<|mv0 rfl rfl<|Dv.nilpp h1173 rfl trivial rfl<|fp h1173 rfl trivial rfl fa206_0<|ld 0 rfl trivial rfl sc204 rfl rfl<|Dv.lenw rfl trivial rfl (mem_at 1 rfl) Tryz.underlying204<|bn0 rfl rfl rfl run_sub<|vg (HHeap.shut (p:=p0_) (m:=(⟨t1170.2.fl++([(⟨a1,a2⟩:HEnt)]:List HEnt),t1170.2.fat⟩:HHeap)) (g1172.1,v1175,g1172.2.2) h1173 (pm 3 [0,1,2])) fun _ _=>?_
 refine el H fun t1176 h1177 H=>cx 1 [0] cal265 (heap_Heap_up.c h1177 (p0_:=p0_)) nofun fun _ _=>?_
 refine .fin ?_
 obtain rfl:=Gets.out H
 exact re rfl () 1 [0] 0 .nil
theorem typing_end.c {a0:Edu} {r:Int} (h:typing_end.f a0 = some r):Pt Tryz.prog 213 [agg (Edu.enc a0)] (vI r):=by
 unfold typing_end.f at h
 refine pb Tryz.func213 Tryz.ntmps213 h fun R0 F H=>?_
 refine WP.seq<|rg 2 1<|Dv.box rfl trivial rfl cA nofun fun b1178=>as0 rfl rfl<|.fin<|WP.seq<|rg 6 0<|fb rfl trivial rfl fa80_9<|ld 0 rfl trivial rfl sc3 rfl rfl<|fb rfl trivial rfl fa80_7<|ld 0 rfl trivial rfl sc3 rfl rfl<|bn0 rfl rfl rfl run_add<|as0 rfl rfl<|.fin ?_
 cases H.out; exact r1 i2 rfl (.cons (res_tmp rfl) .nil)
theorem typing_Table_Put.c {k:Nat} {a0:TTab} {a1:Edu} {p0_:OV} {r:Bool×Int×TTab} (h:typing_Table_Put.f k a0 a1 = some r):Tr Tryz.prog 135 [eq p0_.1,agg (Edu.enc a1)] [TTab.O p0_ a0] (γ:=Unit) (fun _=>True) (fun g=>tup [vB r.1,vI r.2.1]) (fun g=>[TTab.O p0_ r.2.2]):=by
 unfold typing_Table_Put.f at h
 refine tb Tryz.func135 Tryz.ntmps135 h fun R0 F H=>?_
 refine WP.seq<|rg 3 1<|Dv.box rfl trivial rfl cA nofun fun b1179=>as0 rfl rfl<|as0 rfl rfl<|.fin<|WP.seq<|WP.seq<|rg 8 0<|fb rfl trivial rfl fa80_0<|ld 0 rfl trivial rfl sc3 rfl rfl<|bn0 rfl rfl rfl run_ne<|mv0 rfl rfl ?_
 cases c1180:(a1.fKind != 2)
 rotate_left
 ·
  have H:=H.ct c1180
  refine sk rfl rfl<|sk rfl rfl<|sk rfl rfl<|pt0 rfl rfl rfl<|.fin<|WP.cond rfl (fun _=>?_) nofun
  refine WP.seq<|rg 2 0<|as0 rfl rfl<|as0 rfl rfl<|.fin ?_
  cases H.out; exact rt i2 rfl () 2 [0,1] 1 (.cons (res_tmp rfl) (.cons (res_tmp rfl) .nil))
 have H:=H.cf c1180
 refine lds 0 rfl (gg rfl) rfl sg80 rfl rfl<|el H fun t1182 h1183 H=>Dv.call rfl (gg rfl) cal142 rfl (edu_May.c h1183)<|ung rfl rfl rfl (run_not _)<|pf0 rfl rfl rfl<|.fin<|cd H rfl (fun _ H=>?_) (fun _ H=>?_)
 ·
  refine WP.seq<|rg 2 0<|as0 rfl rfl<|as0 rfl rfl<|.fin ?_
  cases H.out; exact rt i2 rfl () 2 [0,1] 1 (.cons (res_tmp rfl) (.cons (res_tmp rfl) .nil))
 refine WP.skip<|WP.seq<|rg 8 0<|mv0 rfl rfl<|lds 0 rfl trivial rfl sg80 rfl rfl<|vg (TTab.opn 1 rfl) fun g1185 h1186=>?_
 refine el H fun t1187 h1188 H=>cll 4 [0,1,2,3] cal209 (Tr.weak (typing_Table_place.c h1188 (b0_:=g1185.1) (v0_0:=g1185.2.1) (v0_1:=g1185.2.2)) (.cons (wk_ptr h1186) (.cons wk_id .nil))) ?_
 refine mv0 rfl rfl<|ex0 rfl trivial rfl rfl<|ex0 rfl trivial rfl rfl<|as0 rfl rfl<|as0 rfl rfl<|.fin<|WP.seqr H id (fun p1189:Bool×Bool×Bool×TTab=>[(0,eq p0_.1),(3,eq (.pointer (some ⟨b1179,0,none⟩)))]) (fun p1189:Bool×Bool×Bool×TTab=>[blk b1179 80 (Edu.enc a1),TTab.O p0_ p1189.2.2.2]++F) (fun p1189 H=>?_) (fun H=>?_)
 ·
  refine WP.seq<|rg 7 0<|fb rfl trivial rfl fa80_1<|ld 0 rfl trivial rfl sc9 rfl rfl<|gr H fun g1190 H=>bn0 rfl rfl rfl (run_cat g1190)<|fb rfl trivial rfl fa80_2<|ld 0 rfl trivial rfl sc9 rfl rfl<|gr H fun g1191 H=>bn0 rfl rfl rfl (run_cat g1191)<|as0 rfl rfl<|.fin<|WP.seq<|rg 6 32<|mv0 rfl rfl<|Dv.nilA TTab.nn rfl trivial rfl (mem_at 1 rfl)<|vg (TTab.opn 1 rfl) fun g1192 h1193=>?_
  refine fp h1193 rfl trivial rfl fa154_1<|ld 0 rfl trivial rfl sc151 rfl rfl<|mv0 rfl rfl<|el H fun t1194 h1195 H=>cx 4 [2,0,1,3] cal211 (heap_Heap_Drop.c h1195 (p0_:=g1192.2.2)) nofun fun _ _=>?_
  refine .fin<|WP.seq<|WP.seq<|rg 2 0<|fb rfl trivial rfl fa80_6<|ld 3 rfl trivial rfl sc4 rfl rfl<|.fin<|cd H rfl (fun _ H=>?_) (fun _ H=>?_)
  rotate_left
  ·
   refine WP.skip<|WP.seq<|rg 2 0<|as0 rfl rfl<|as0 rfl rfl<|.fin<|wg (TTab.shut (p:=p0_) (m:=(⟨p1189.2.2.2.fl,t1194.2⟩:TTab)) (g1192.1,g1192.2.1,g1192.2.2) h1193 (pm 4 [1,2,0,3])) fun _ _=>?_
   cases H.out; exact rt i2 rfl () 2 [1,0] 1 (.cons (res_tmp rfl) (.cons (res_tmp rfl) .nil))
  refine dg Tryz.checked.mixed 8 128<|mv0 rfl rfl<|Dv.nilpp h1193 rfl trivial rfl<|fp h1193 rfl trivial rfl fa154_1<|ld 1 rfl trivial rfl sc151 rfl rfl<|lds 3 rfl trivial rfl sg80 rfl rfl<|el H fun t1197 h1198 H=>cl rfl cal213 rfl (typing_end.c h1198)<|mv0 rfl rfl<|el H fun t1199 h1200 H=>cx 4 [0,1,2,3] cal212 (heap_Heap_Put.c h1200 (p0_:=g1192.2.2)) pC fun _ _=>?_
  refine .fin<|WP.seq<|rg 2 0<|as0 rfl rfl<|as0 rfl rfl<|.fin<|wg (TTab.shut (p:=p0_) (m:=(⟨p1189.2.2.2.fl,t1199⟩:TTab)) (g1192.1,g1192.2.1,g1192.2.2) h1193 (pm 4 [1,2,0,3])) fun _ _=>?_
  cases H.out; exact rt i2 rfl () 2 [1,0] 1 (.cons (res_tmp rfl) (.cons (res_tmp rfl) .nil))
 refine WP.block<|WP.seq<|dg Tryz.checked.mixed 25 0<|mv0 rfl rfl<|mv0 rfl rfl ?_
 cases c1201:t1187.2
 ·
  have H:=H.cf c1201
  refine sk rfl rfl<|sk rfl rfl<|sk rfl rfl<|sk rfl rfl<|sk rfl rfl<|sk rfl rfl<|sk rfl rfl<|sk rfl rfl<|sk rfl rfl<|sk rfl rfl<|sku rfl rfl<|sku rfl rfl<|sku rfl rfl<|sku rfl rfl<|sku rfl rfl<|sku rfl rfl<|sku rfl rfl<|sku rfl rfl<|sku rfl rfl<|sku rfl rfl<|sk rfl rfl<|pf0 rfl rfl rfl<|as0 rfl rfl<|.fin<|WP.cond rfl nofun (fun _=>?_)
  refine WP.seq<|rg 2 0<|mv0 rfl rfl<|as0 rfl rfl<|.fin<|WP.cond rfl nofun (fun _=>?_)
  refine dg Tryz.checked.mixed 12 2304<|mv0 rfl rfl<|mv0 rfl rfl<|Dv.nilpp h1186 rfl trivial rfl<|fp h1186 rfl trivial rfl fa154_0<|ld 0 rfl trivial rfl sc40 rfl rfl<|mv0 rfl rfl<|lds 3 rfl trivial rfl sg80 rfl rfl<|Dv.lit Edu.K ([a1]:List Edu) (css:=[Edu.enc a1]) rfl trivial Tryz.underlying40 Tryz.underlying80 c80 z80 rfl (by decide) (by decide) rfl ⟨(cells_agg (Edu.K.one _)),trivial⟩ rfl rfl rfl<|el H fun t1216 h1217 H=>Dv.callx (pre:=[own Edu.K g1185.2.1.1 a0.fl]) (F:=[blk g1185.1 154 [eq g1185.2.1.1,eq g1185.2.2.1],HHeap.O g1185.2.2 a0.fends,blk b1179 80 (Edu.enc a1)]++F) (fun g1218:OV=>[own Edu.K g1218.1 t1216,blk g1185.1 154 [eq g1185.2.1.1,eq g1185.2.2.1],HHeap.O g1185.2.2 a0.fends,blk b1179 80 (Edu.enc a1)]++F) rfl trivial cal210 rfl (slices_Insert_Edu.c h1217 (p0_:=g1185.2.1)) (perm_to (L:=[blk g1185.1 154 [eq g1185.2.1.1,eq g1185.2.2.1],own Edu.K g1185.2.1.1 a0.fl,HHeap.O g1185.2.2 a0.fends,blk b1179 80 (Edu.enc a1)]) (F:=F) [1,0,2,3] rfl rfl rfl) rfl (fun _=>pendc (pend_by (by kernel_rfl) (pend_by (by kernel_rfl) (pend_by (by kernel_rfl) (pend_by (by kernel_rfl) (pend_by (by kernel_rfl) (pend_by (by kernel_rfl) (pend_by (by kernel_rfl) (pend_in (fun _=>trivial) pend_nil))))))))) (fun g1218 _=>?_)
  refine Dv.nilpp h1186 rfl trivial rfl<|fp h1186 rfl trivial rfl fa154_0<|sx 1 rfl trivial rfl rfl (cells_one one_ov) sz40 rfl rfl rfl pB ?_
  refine .fin ?_
  have H:=H.out
  refine ng (TTab.shut (p:=p0_) (m:=(⟨t1216,a0.fends⟩:TTab)) (g1185.1,g1218,g1185.2.2) h1186 (pm 4 [1,0,2,3])) fun _ _=>?_
  refine ng (sg 2 [1,0] 0) fun _ _=>?_
  exact jn (false,false,false,(⟨t1216,a0.fends⟩:TTab)) H
 have H:=H.ct c1201
 refine mvg rfl rfl rfl<|Dv.nilpp h1186 rfl (gg rfl) rfl<|fp h1186 rfl (gg rfl) rfl fa154_0<|ld 0 rfl (gg rfl) rfl sc40 rfl rfl<|mvg rfl rfl rfl<|gr H fun g1202 H=>?_
 have h1203:t1187.1.toNat < a0.fl.length:=idx_lt g1202
 refine Dv.ixw rfl (gg rfl) rfl (mem_at 1 rfl) rfl Tryz.underlying40 Tryz.underlying80 c80 g1202.1 g1202.2<|Dv.ldws (j:=t1187.1.toNat) (f:=0) rfl (gg rfl) rfl (mem_at 1 rfl) h1203 Tryz.underlying80 rfl c80 (Nat.le_of_ble_eq_true rfl)<|lds 3 rfl (gg rfl) rfl sg80 rfl rfl<|Dv.eqs [.int .i64 ((a0.fl.getD t1187.1.toNat default).fKind),.string ((a0.fl.getD t1187.1.toNat default).fRoom),.string ((a0.fl.getD t1187.1.toNat default).fUser),.string ((a0.fl.getD t1187.1.toNat default).fEvent),.string ((a0.fl.getD t1187.1.toNat default).fThread),.bool ((a0.fl.getD t1187.1.toNat default).fPrivate),.bool ((a0.fl.getD t1187.1.toNat default).fOn),.int .i64 ((a0.fl.getD t1187.1.toNat default).fSpan),.int .i64 ((a0.fl.getD t1187.1.toNat default).fState),.int .i64 ((a0.fl.getD t1187.1.toNat default).fTick),.int .i64 ((a0.fl.getD t1187.1.toNat default).fStamp)] [.int .i64 a1.fKind,.string a1.fRoom,.string a1.fUser,.string a1.fEvent,.string a1.fThread,.bool a1.fPrivate,.bool a1.fOn,.int .i64 a1.fSpan,.int .i64 a1.fState,.int .i64 a1.fTick,.int .i64 a1.fStamp] rfl (gg rfl) rfl rfl rfl rfl eg80 (fun _=>equal_of 2 (by decide) (fun _=>eqt80 (a0.fl.getD t1187.1.toNat default) a1))<|mvg rfl rfl rfl ?_
 cases c1204:decide (a0.fl.getD t1187.1.toNat default = a1)
 rotate_left
 ·
  have H:=H.ct c1204
  refine sk rfl rfl<|sk rfl rfl<|sk rfl rfl<|sk rfl rfl<|sk rfl rfl<|sk rfl rfl<|sk rfl rfl<|sk rfl rfl<|sk rfl rfl<|sk rfl rfl<|ptg rfl rfl rfl rfl<|pt0 rfl rfl rfl<|as0 rfl rfl<|.fin<|WP.cond rfl (fun _=>?_) nofun
  refine WP.seq<|rg 2 0<|as0 rfl rfl<|as0 rfl rfl<|.fin<|wg (TTab.shut (p:=p0_) (m:=a0) (g1185.1,g1185.2.1,g1185.2.2) h1186 (pm 4 [0,1,2,3])) fun _ _=>?_
  have H:=H.outr
  cases H.out; exact rt i2 rfl () 2 [1,0] 1 (.cons (res_tmp rfl) (.cons (res_tmp rfl) .nil))
 have H:=H.cf c1204
 refine lds 3 rfl (gg rfl) rfl sg80 rfl rfl<|mvg rfl rfl rfl<|Dv.nilpp h1186 rfl (gg rfl) rfl<|fp h1186 rfl (gg rfl) rfl fa154_0<|ld 0 rfl (gg rfl) rfl sc40 rfl rfl<|mvg rfl rfl rfl<|gr H fun g1206 H=>?_
 have h1207:t1187.1.toNat < a0.fl.length:=idx_lt g1206
 refine Dv.ixw rfl (gg rfl) rfl (mem_at 1 rfl) rfl Tryz.underlying40 Tryz.underlying80 c80 g1206.1 g1206.2<|Dv.ldws (j:=t1187.1.toNat) (f:=0) rfl (gg rfl) rfl (mem_at 1 rfl) h1207 Tryz.underlying80 rfl c80 (Nat.le_of_ble_eq_true rfl)<|el H fun t1208 h1209 H=>Dv.call rfl (gg rfl) cal144 rfl (edu_Later.c h1209)<|ung rfl rfl rfl (run_not _)<|pfg rfl rfl rfl rfl<|pt0 rfl rfl rfl<|as0 rfl rfl<|.fin<|cd H rfl (fun _ H=>?_) (fun _ H=>?_)
 ·
  refine WP.seq<|rg 2 0<|as0 rfl rfl<|as0 rfl rfl<|.fin<|wg (TTab.shut (p:=p0_) (m:=a0) (g1185.1,g1185.2.1,g1185.2.2) h1186 (pm 4 [0,1,2,3])) fun _ _=>?_
  have H:=H.outr
  cases H.out; exact rt i2 rfl () 2 [1,0] 1 (.cons (res_tmp rfl) (.cons (res_tmp rfl) .nil))
 refine WP.seq<|rg 2 0<|mv0 rfl rfl<|as0 rfl rfl<|.fin<|WP.cond rfl (fun _=>?_) nofun
 refine dg Tryz.checked.mixed 8 128<|mv0 rfl rfl<|Dv.nilpp h1186 rfl trivial rfl<|fp h1186 rfl trivial rfl fa154_0<|ld 0 rfl trivial rfl sc40 rfl rfl<|mv0 rfl rfl<|lds 3 rfl trivial rfl sg80 rfl rfl<|gr H fun g1212 H=>?_
 have h1213:t1187.1.toNat < a0.fl.length:=idx_lt g1212
 refine Dv.ixw rfl trivial rfl (mem_at 1 rfl) rfl Tryz.underlying40 Tryz.underlying80 c80 g1212.1 g1212.2<|Dv.stw (j:=t1187.1.toNat) (f:=0) (jj:=1) a1 rfl trivial rfl rfl (cells_agg (Edu.K.one _)) Tryz.underlying80 c80 rfl rfl h1213 (Nat.le_of_ble_eq_true rfl) rfl (fun _=>pend_bits (by kernel_rfl))<|.fin ?_
 have H:=H.out
 refine ng (TTab.shut (p:=p0_) (m:=(⟨a0.fl.set t1187.1.toNat a1,a0.fends⟩:TTab)) (g1185.1,g1185.2.1,g1185.2.2) h1186 (pm 4 [0,1,2,3])) fun _ _=>?_
 refine ng (sg 2 [1,0] 0) fun _ _=>?_
 exact jn (true,!t1208,true,(⟨a0.fl.set t1187.1.toNat a1,a0.fends⟩:TTab)) H
theorem sync_RoomKey.c {a0:ByteArray} {r:ByteArray} (h:sync_RoomKey.f a0 = some r):Pt Tryz.prog 136 [vS a0] (vS r):=by
 unfold sync_RoomKey.f at h
 refine pb Tryz.func136 Tryz.ntmps136 h fun R0 F H=>?_
 refine WP.seq<|rg 1 0<|as0 rfl rfl<|.fin<|WP.seq<|rg 3 0<|mv0 rfl rfl<|gr H fun g1219 H=>bn0 rfl rfl rfl (run_cat g1219)<|as0 rfl rfl<|.fin ?_
 cases H.out; exact r0 i2 rfl (.cons (res_tmp rfl) .nil)
theorem slices_BinarySearchFunc_Edu_string.c {k:Nat} {a0:List Edu} {a1:ByteArray} {a2:Edu→ByteArray→Option Int} {r:Int×Bool} (h:slices_BinarySearchFunc_Edu_string.f k a0 a1 a2 = some r):Pt Tryz.prog 266 [sl Edu.K a0,vS a1,fq_api_Edu_string_int a2] (tup [vI r.1,vB r.2]):=by
 unfold slices_BinarySearchFunc_Edu_string.f at h
 refine pb Tryz.func266 Tryz.ntmps266 h fun R0 F H=>?_
 refine WP.seq<|rg 2 0<|as0 rfl rfl<|as0 rfl rfl<|.fin<|WP.seq<|rg 3 0<|mv0 rfl rfl<|Dv.lenl rfl trivial rfl Tryz.underlying40<|as0 rfl rfl<|.fin<|WP.seq<|rg 3 0<|mv0 rfl rfl<|as0 rfl rfl<|as0 rfl rfl<|.fin<|WP.seqn H id (fun p1220:Int×Int×Bool=>[(0,sl Edu.K a0),(1,vS a1),(2,fq_api_Edu_string_int a2),(8,vI (a0.length:Int)),(9,vI p1220.1)]) (fun p1220:Int×Int×Bool=>F) (fun p1220 H=>?_) (fun H=>?_)
 ·
  refine WP.seq<|rg 16 0<|mv0 rfl rfl<|mv0 rfl rfl<|mv0 rfl rfl<|bn0 rfl rfl rfl run_lt<|mv0 rfl rfl ?_
  cases c1221:decide (p1220.1 < (a0.length:Int))
  ·
   have H:=H.cf c1221
   refine sk rfl rfl<|sk rfl rfl<|sk rfl rfl<|sk rfl rfl<|sk rfl rfl<|sk rfl rfl<|sk rfl rfl<|sk rfl rfl<|pf0 rfl rfl rfl<|as0 rfl rfl<|as0 rfl rfl<|.fin ?_
   cases H.out; exact r0 i2 rfl (.cons (res_tmp rfl) (.cons (res_tmp rfl) .nil))
  have H:=H.ct c1221
  refine mvg rfl rfl rfl<|mvg rfl rfl rfl<|mvg rfl rfl rfl<|gr H fun g1222 H=>Dv.ixr rfl (gg rfl) rfl rfl Tryz.underlying40 Tryz.underlying80 c80 g1222.1 g1222.2<|ldsR rfl (gg rfl) rfl sg80 rfl<|mvg rfl rfl rfl<|el H fun t1223 h1224 H=>Dv.callq (ret:=vI t1223) rfl (gg rfl) rfl rfl ⟨_,_,_,h1224,rfl,rfl⟩<|bng rfl rfl rfl rfl run_eq<|pt0 rfl rfl rfl<|as0 rfl rfl<|as0 rfl rfl<|.fin ?_
  cases H.out; exact r0 i2 rfl (.cons (res_tmp rfl) (.cons (res_tmp rfl) .nil))
 refine WP.block<|wg (sg 0 [] 0) fun _ _=>?_
 refine lp (fun j_ (p1233:Int×Int)=>slices_BinarySearchFunc_Edu_string.l0 k a0 a1 a2 j_ p1233.1 p1233.2) (0,(a0.length:Int)) H (fun p1233=>[(0,sl Edu.K a0),(1,vS a1),(2,fq_api_Edu_string_int a2),(8,vI (a0.length:Int)),(9,vI p1233.1),(10,vI p1233.2)]) (fun p1233=>F) ?_
 rintro j_ ⟨x1225,x1226⟩ H
 rcases j_ with _ | j1232
 ·
  exact (Gets.no H).elim
 try dsimp only at H
 rw [slices_BinarySearchFunc_Edu_string.l0] at H
 refine WP.seq<|WP.seq<|rg 3 0<|mv0 rfl rfl<|mv0 rfl rfl<|bn0 rfl rfl rfl run_lt<|.fin<|cd H rfl (fun _ H=>?_) (fun _ H=>?_)
 rotate_left
 ·
  refine WP.exit ?_
  have H:=H.out
  exact jn (x1225,x1226,decide (x1225 < x1226)) H
 refine WP.skip<|WP.block<|WP.seq<|rg 7 0<|mv0 rfl rfl<|mv0 rfl rfl<|bn0 rfl rfl rfl run_add<|Dv.cvi rfl trivial rfl Tryz.underlying3 Tryz.underlying225<|bn0 rfl rfl rfl (run_shr (by decide))<|Dv.cvi rfl trivial rfl Tryz.underlying225 Tryz.underlying3<|as0 rfl rfl<|.fin<|WP.seq<|rg 8 0<|mv0 rfl rfl<|mv0 rfl rfl<|mv0 rfl rfl<|gr H fun g1228 H=>Dv.ixr rfl trivial rfl rfl Tryz.underlying40 Tryz.underlying80 c80 g1228.1 g1228.2<|ldsR rfl trivial rfl sg80 rfl<|mv0 rfl rfl<|el H fun t1229 h1230 H=>Dv.callq (ret:=vI t1229) rfl trivial rfl rfl ⟨_,_,_,h1230,rfl,rfl⟩<|bn0 rfl rfl rfl run_lt<|.fin<|cd H rfl (fun _ H=>?_) (fun _ H=>?_)
 rotate_left
 ·
  exact rg 2 0<|mv0 rfl rfl<|as0 rfl rfl<|.fin<|bk j1232 (x1225,w64 ((IntKind.u64.wrap (w64 (x1225 + x1226))).fdiv 2)) H
 exact rg 3 0<|mv0 rfl rfl<|bn0 rfl rfl rfl run_add<|as0 rfl rfl<|.fin<|bk j1232 (w64 ((w64 ((IntKind.u64.wrap (w64 (x1225 + x1226))).fdiv 2)) + 1),x1226) H
theorem presence_Table_place_1.c {a0:Edu} {a1:ByteArray} {r:Int} (h:presence_Table_place_1.f a0 a1 = some r):Pt Tryz.prog 267 [agg (Edu.enc a0),vS a1] (vI r):=by
 unfold presence_Table_place_1.f at h
 refine pb Tryz.func267 Tryz.ntmps267 h fun R0 F H=>?_
 refine WP.seq<|rg 2 1<|Dv.box rfl trivial rfl cA nofun fun b1234=>as0 rfl rfl<|.fin<|WP.seq<|rg 5 0<|fb rfl trivial rfl fa80_2<|ld 0 rfl trivial rfl sc9 rfl rfl<|mv0 rfl rfl<|el H fun t1235 h1236 H=>cl rfl cal196 rfl (cmp_Compare_string.c h1236)<|as0 rfl rfl<|.fin ?_
 cases H.out; exact r1 i2 rfl (.cons (res_tmp rfl) .nil)
theorem presence_Table_place.c {k:Nat} {a0:PTab} {a1:ByteArray} {v0_0 v0_1:OV} {b0_:Nat} {r:Int×Bool} (h:presence_Table_place.f k a0 a1 = some r):Tr Tryz.prog 214 [eq (.pointer (some ⟨b0_,0,none⟩)),vS a1] [blk b0_ 156 [eq v0_0.1,eq v0_1.1],own Edu.K v0_0.1 a0.fl] (γ:=Unit) (fun _=>True) (fun g=>tup [vI r.1,vB r.2]) (fun g=>[blk b0_ 156 [eq v0_0.1,eq v0_1.1],own Edu.K v0_0.1 a0.fl]):=by
 unfold presence_Table_place.f at h
 refine tb Tryz.func214 Tryz.ntmps214 h fun R0 F H=>?_
 refine WP.seq<|rg 2 0<|as0 rfl rfl<|as0 rfl rfl<|.fin<|WP.seq<|rg 10 0<|mv0 rfl rfl<|Dv.nilp rfl trivial rfl<|fb rfl trivial rfl fa156_0<|ld 0 rfl trivial rfl sc40 rfl rfl<|mv0 rfl rfl<|el H fun t1237 h1238 H=>cll (B:=[own Edu.K v0_0.1 a0.fl]) 2 [1,0] cal266 (Pt.lend _ (Pt.weak (slices_BinarySearchFunc_Edu_string.c h1238) (.cons wk_id (.cons wk_id (.cons (wk_fn cal267 (by rintro _ _ ⟨a0_,a1_,r_,h_,rfl,rfl⟩; exact presence_Table_place_1.c h_)) .nil)))) (.cons (lt_own (mem_at 0 rfl)) (.cons lt_id (.cons lt_id .nil))) (flat_tup (flats_cons flat_eq (flats_cons flat_eq flats_nil)))) ?_
 refine ex0 rfl trivial rfl rfl<|ex0 rfl trivial rfl rfl<|as0 rfl rfl<|as0 rfl rfl<|.fin ?_
 cases H.out; exact rt i2 rfl () 2 [0,1] 0 (.cons (res_tmp rfl) (.cons (res_tmp rfl) .nil))
theorem presence_state.c {a0:Edu} {a1:Int} {r:Int} (h:presence_state.f a0 a1 = some r):Pt Tryz.prog 268 [agg (Edu.enc a0),vI a1] (vI r):=by
 unfold presence_state.f at h
 refine pb Tryz.func268 Tryz.ntmps268 h fun R0 F H=>?_
 refine WP.seq<|rg 2 1<|Dv.box rfl trivial rfl cA nofun fun b1239=>as0 rfl rfl<|.fin<|WP.seq<|WP.seq<|rg 2 0<|fb rfl trivial rfl fa80_8<|ld 0 rfl trivial rfl sc3 rfl rfl<|.fin<|WP.block<|WP.seq<|WP.block<|WP.seq<|WP.block<|WP.seq<|WP.seq<|WP.seq<|rg 2 0<|bn0 rfl rfl rfl run_eq<|as0 rfl rfl<|.fin<|cd H rfl (fun _ H=>?_) (fun _ H=>?_)
 rotate_left
 ·
  refine WP.skip<|WP.seq<|rg 2 0<|bn0 rfl rfl rfl run_eq<|as0 rfl rfl<|.fin<|cd H rfl (fun _ H=>?_) (fun _ H=>?_)
  rotate_left
  ·
   refine WP.skip<|WP.exit<|WP.seq<|rg 1 0<|as0 rfl rfl<|.fin ?_
   cases H.out; exact r1 i2 rfl (.cons (res_tmp rfl) .nil)
  refine WP.exit<|WP.seq<|WP.seq<|rg 5 0<|mv0 rfl rfl<|fb rfl trivial rfl fa80_9<|ld 0 rfl trivial rfl sc3 rfl rfl<|bn0 rfl rfl rfl run_add<|bn0 rfl rfl rfl run_lt<|.fin<|cd H rfl (fun _ H=>?_) (fun _ H=>?_)
  ·
   refine WP.seq<|rg 1 0<|as0 rfl rfl<|.fin ?_
   cases H.out; exact r1 i2 rfl (.cons (res_tmp rfl) .nil)
  refine WP.skip<|WP.exit<|WP.seq<|rg 1 0<|as0 rfl rfl<|.fin ?_
  cases H.out; exact r1 i2 rfl (.cons (res_tmp rfl) .nil)
 refine WP.exit<|WP.seq<|rg 5 0<|mv0 rfl rfl<|fb rfl trivial rfl fa80_9<|ld 0 rfl trivial rfl sc3 rfl rfl<|bn0 rfl rfl rfl run_add<|bn0 rfl rfl rfl run_lt<|.fin<|cd H rfl (fun _ H=>?_) (fun _ H=>?_)
 ·
  refine WP.seq<|rg 1 0<|as0 rfl rfl<|.fin ?_
  cases H.out; exact r1 i2 rfl (.cons (res_tmp rfl) .nil)
 refine WP.skip<|WP.seq<|WP.seq<|rg 5 0<|mv0 rfl rfl<|fb rfl trivial rfl fa80_9<|ld 0 rfl trivial rfl sc3 rfl rfl<|bn0 rfl rfl rfl run_add<|bn0 rfl rfl rfl run_lt<|.fin<|cd H rfl (fun _ H=>?_) (fun _ H=>?_)
 ·
  refine WP.seq<|rg 1 0<|as0 rfl rfl<|.fin ?_
  cases H.out; exact r1 i2 rfl (.cons (res_tmp rfl) .nil)
 refine WP.skip<|WP.exit<|WP.seq<|rg 1 0<|as0 rfl rfl<|.fin ?_
 cases H.out; exact r1 i2 rfl (.cons (res_tmp rfl) .nil)
theorem presence_turn.c {k:Nat} {a0:Edu} {a1:Int} {r:Int×Bool} (h:presence_turn.f k a0 a1 = some r):Pt Tryz.prog 215 [agg (Edu.enc a0),vI a1] (tup [vI r.1,vB r.2]):=by
 unfold presence_turn.f at h
 refine pb Tryz.func215 Tryz.ntmps215 h fun R0 F H=>?_
 refine WP.seq<|rg 3 1<|Dv.box rfl trivial rfl cA nofun fun b1245=>as0 rfl rfl<|as0 rfl rfl<|.fin<|WP.seqr H id (fun p1246:Int×Bool=>[]) (fun p1246:Int×Bool=>[blk b1245 80 (Edu.enc a0)]++F) (fun p1246 H=>?_) (fun H=>?_)
 ·
  refine WP.seq<|rg 2 0<|as0 rfl rfl<|as0 rfl rfl<|.fin ?_
  cases H.out; exact r1 i2 rfl (.cons (res_tmp rfl) (.cons (res_tmp rfl) .nil))
 refine WP.seq<|rg 2 0<|Dv.blda (qs:=[vI 30,vI 90]) (css:=[[vI 30],[vI 90]]) rfl trivial Tryz.underlying380 Tryz.underlying3 c3 z380 rfl ⟨(cells_one (one_eq rfl)),⟨(cells_one (one_eq rfl)),trivial⟩⟩ rfl rfl<|mv0 rfl rfl<|.fin<|WP.block<|wg (sg 1 [0] 0) fun _ _=>?_
 refine lp (fun j_ (p1258:Int)=>presence_turn.l0 k a0 a1 j_ p1258) 0 H (fun p1258=>[(1,vI a1),(2,eq (.pointer (some ⟨b1245,0,none⟩))),(9,agg [vI 30,vI 90]),(10,vI p1258)]) (fun p1258=>[blk b1245 80 (Edu.enc a0)]++F) ?_
 rintro j_ x1247 H
 rcases j_ with _ | j1257
 ·
  exact (Gets.no H).elim
 try dsimp only at H
 rw [presence_turn.l0] at H
 refine WP.seq<|rg 1 0<|bn0 rfl rfl rfl run_lt<|.fin<|WP.seq<|cd H rfl (fun _ H=>?_) (fun _ H=>?_)
 rotate_left
 ·
  refine WP.exit ?_
  have H:=H.out
  exact jn (x1247,decide (x1247 < 2)) H
 refine WP.skip<|WP.seq<|WP.block<|WP.seq<|rg 2 0<|gr H fun g1249 H=>Dv.ixa (Kd:=(intK .i64)) (xs:=([30,90]:List Int)) rfl trivial rfl rfl rfl Tryz.underlying380 Tryz.underlying3 rfl c3 rfl rfl g1249.1 g1249.2 rfl<|as0 rfl rfl<|.fin<|WP.seq<|rg 5 0<|fb rfl trivial rfl fa80_9<|ld 0 rfl trivial rfl sc3 rfl rfl<|mv0 rfl rfl<|bn0 rfl rfl rfl run_add<|as0 rfl rfl<|.fin<|WP.seq<|dg Tryz.checked.mixed 13 0<|mv0 rfl rfl<|mv0 rfl rfl<|bn0 rfl rfl rfl run_gt<|mv0 rfl rfl ?_
 cases c1250:decide (a1 < (w64 (a0.fTick + ((intK .i64).at ([30,90]:List Int) x1247))))
 ·
  have H:=H.cf c1250
  refine sk rfl rfl<|sk rfl rfl<|sk rfl rfl<|sk rfl rfl<|sk rfl rfl<|sk rfl rfl<|sk rfl rfl<|sk rfl rfl<|pf0 rfl rfl rfl<|.fin<|WP.cond rfl nofun (fun _=>?_)
  exact WP.skip<|rg 2 0<|bn0 rfl rfl rfl run_add<|mv0 rfl rfl<|.fin<|bk j1257 (w64 (x1247 + 1)) H
 have H:=H.ct c1250
 refine lds 0 rfl (gg rfl) rfl sg80 rfl rfl<|mvg rfl rfl rfl<|bng rfl rfl rfl rfl run_sub<|el H fun t1251 h1252 H=>Dv.call rfl (gg rfl) cal268 rfl (presence_state.c h1252)<|lds 0 rfl (gg rfl) rfl sg80 rfl rfl<|mvg rfl rfl rfl<|el H fun t1253 h1254 H=>Dv.call rfl (gg rfl) cal268 rfl (presence_state.c h1254)<|bng rfl rfl rfl rfl run_gt<|pt0 rfl rfl rfl<|.fin<|cd H rfl (fun _ H=>?_) (fun _ H=>?_)
 rotate_left
 ·
  exact WP.skip<|rg 2 0<|bn0 rfl rfl rfl run_add<|mv0 rfl rfl<|.fin<|bk j1257 (w64 (x1247 + 1)) H
 refine WP.seq<|rg 3 0<|mv0 rfl rfl<|as0 rfl rfl<|as0 rfl rfl<|.fin ?_
 have H:=H.outr
 cases H.out; exact r1 i2 rfl (.cons (res_tmp rfl) (.cons (res_tmp rfl) .nil))
theorem presence_Table_Put.c {k:Nat} {a0:PTab} {a1:Edu} {p0_:OV} {r:Bool×Int×PTab} (h:presence_Table_Put.f k a0 a1 = some r):Tr Tryz.prog 137 [eq p0_.1,agg (Edu.enc a1)] [PTab.O p0_ a0] (γ:=Unit) (fun _=>True) (fun g=>tup [vB r.1,vI r.2.1]) (fun g=>[PTab.O p0_ r.2.2]):=by
 unfold presence_Table_Put.f at h
 refine tb Tryz.func137 Tryz.ntmps137 h fun R0 F H=>?_
 refine WP.seq<|rg 3 1<|Dv.box rfl trivial rfl cA nofun fun b1259=>as0 rfl rfl<|as0 rfl rfl<|.fin<|WP.seq<|WP.seq<|rg 8 0<|fb rfl trivial rfl fa80_0<|ld 0 rfl trivial rfl sc3 rfl rfl<|bn0 rfl rfl rfl run_ne<|mv0 rfl rfl ?_
 cases c1260:(a1.fKind != 3)
 rotate_left
 ·
  have H:=H.ct c1260
  refine sk rfl rfl<|sk rfl rfl<|sk rfl rfl<|pt0 rfl rfl rfl<|.fin<|WP.cond rfl (fun _=>?_) nofun
  refine WP.seq<|rg 2 0<|as0 rfl rfl<|as0 rfl rfl<|.fin ?_
  cases H.out; exact rt i2 rfl () 2 [0,1] 1 (.cons (res_tmp rfl) (.cons (res_tmp rfl) .nil))
 have H:=H.cf c1260
 refine lds 0 rfl (gg rfl) rfl sg80 rfl rfl<|el H fun t1262 h1263 H=>Dv.call rfl (gg rfl) cal142 rfl (edu_May.c h1263)<|ung rfl rfl rfl (run_not _)<|pf0 rfl rfl rfl<|.fin<|cd H rfl (fun _ H=>?_) (fun _ H=>?_)
 ·
  refine WP.seq<|rg 2 0<|as0 rfl rfl<|as0 rfl rfl<|.fin ?_
  cases H.out; exact rt i2 rfl () 2 [0,1] 1 (.cons (res_tmp rfl) (.cons (res_tmp rfl) .nil))
 refine WP.skip<|WP.seq<|rg 9 0<|mv0 rfl rfl<|fb rfl trivial rfl fa80_2<|ld 0 rfl trivial rfl sc9 rfl rfl<|vg (PTab.opn 1 rfl) fun g1265 h1266=>?_
 refine el H fun t1267 h1268 H=>cll 4 [0,1,2,3] cal214 (Tr.weak (presence_Table_place.c h1268 (b0_:=g1265.1) (v0_0:=g1265.2.1) (v0_1:=g1265.2.2)) (.cons (wk_ptr h1266) (.cons wk_id .nil))) ?_
 refine mv0 rfl rfl<|ex0 rfl trivial rfl rfl<|ex0 rfl trivial rfl rfl<|as0 rfl rfl<|as0 rfl rfl<|.fin<|WP.seqr H id (fun p1269:Bool×Bool×Bool×PTab=>[(0,eq p0_.1),(3,eq (.pointer (some ⟨b1259,0,none⟩)))]) (fun p1269:Bool×Bool×Bool×PTab=>[blk b1259 80 (Edu.enc a1),PTab.O p0_ p1269.2.2.2]++F) (fun p1269 H=>?_) (fun H=>?_)
 ·
  refine WP.seq<|wg (PTab.opn 1 rfl) fun g1270 h1271=>?_
  refine dg Tryz.checked.mixed 7 64<|mv0 rfl rfl<|Dv.nilpp h1271 rfl trivial rfl<|fp h1271 rfl trivial rfl fa156_1<|ld 0 rfl trivial rfl sc151 rfl rfl<|fb rfl trivial rfl fa80_2<|ld 3 rfl trivial rfl sc9 rfl rfl<|el H fun t1272 h1273 H=>cx 4 [2,0,1,3] cal211 (heap_Heap_Drop.c h1273 (p0_:=g1270.2.2)) pC fun _ _=>?_
  refine .fin<|WP.seq<|WP.seq<|rg 7 0<|lds 3 rfl trivial rfl sg80 rfl rfl<|el H fun t1274 h1275 H=>cl rfl cal215 rfl (presence_turn.c h1275)<|mv0 rfl rfl<|ex0 rfl trivial rfl rfl<|ex0 rfl trivial rfl rfl<|as0 rfl rfl<|as0 rfl rfl<|.fin<|WP.seq<|rg 1 0<|mv0 rfl rfl<|.fin<|cd H rfl (fun _ H=>?_) (fun _ H=>?_)
  rotate_left
  ·
   refine WP.skip<|WP.seq<|rg 2 0<|as0 rfl rfl<|as0 rfl rfl<|.fin<|wg (PTab.shut (p:=p0_) (m:=(⟨p1269.2.2.2.fl,t1272.2⟩:PTab)) (g1270.1,g1270.2.1,g1270.2.2) h1271 (pm 4 [1,2,0,3])) fun _ _=>?_
   cases H.out; exact rt i2 rfl () 2 [1,0] 1 (.cons (res_tmp rfl) (.cons (res_tmp rfl) .nil))
  refine dg Tryz.checked.mixed 8 128<|mv0 rfl rfl<|Dv.nilpp h1271 rfl trivial rfl<|fp h1271 rfl trivial rfl fa156_1<|ld 1 rfl trivial rfl sc151 rfl rfl<|mv0 rfl rfl<|fb rfl trivial rfl fa80_2<|ld 3 rfl trivial rfl sc9 rfl rfl<|el H fun t1277 h1278 H=>cx 4 [0,1,2,3] cal212 (heap_Heap_Put.c h1278 (p0_:=g1270.2.2)) pC fun _ _=>?_
  refine .fin<|WP.seq<|rg 2 0<|as0 rfl rfl<|as0 rfl rfl<|.fin<|wg (PTab.shut (p:=p0_) (m:=(⟨p1269.2.2.2.fl,t1277⟩:PTab)) (g1270.1,g1270.2.1,g1270.2.2) h1271 (pm 4 [1,2,0,3])) fun _ _=>?_
  cases H.out; exact rt i2 rfl () 2 [1,0] 1 (.cons (res_tmp rfl) (.cons (res_tmp rfl) .nil))
 refine WP.block<|WP.seq<|dg Tryz.checked.mixed 14 0<|mv0 rfl rfl<|mv0 rfl rfl ?_
 cases c1279:t1267.2
 ·
  have H:=H.cf c1279
  refine sk rfl rfl<|sk rfl rfl<|sk rfl rfl<|sk rfl rfl<|sk rfl rfl<|sk rfl rfl<|sk rfl rfl<|sk rfl rfl<|sk rfl rfl<|sk rfl rfl<|pf0 rfl rfl rfl<|as0 rfl rfl<|.fin<|WP.cond rfl nofun (fun _=>?_)
  refine WP.seq<|rg 2 0<|mv0 rfl rfl<|as0 rfl rfl<|.fin<|WP.cond rfl nofun (fun _=>?_)
  refine dg Tryz.checked.mixed 12 2304<|mv0 rfl rfl<|mv0 rfl rfl<|Dv.nilpp h1266 rfl trivial rfl<|fp h1266 rfl trivial rfl fa156_0<|ld 0 rfl trivial rfl sc40 rfl rfl<|mv0 rfl rfl<|lds 3 rfl trivial rfl sg80 rfl rfl<|Dv.lit Edu.K ([a1]:List Edu) (css:=[Edu.enc a1]) rfl trivial Tryz.underlying40 Tryz.underlying80 c80 z80 rfl (by decide) (by decide) rfl ⟨(cells_agg (Edu.K.one _)),trivial⟩ rfl rfl rfl<|el H fun t1290 h1291 H=>Dv.callx (pre:=[own Edu.K g1265.2.1.1 a0.fl]) (F:=[blk g1265.1 156 [eq g1265.2.1.1,eq g1265.2.2.1],HHeap.O g1265.2.2 a0.fturns,blk b1259 80 (Edu.enc a1)]++F) (fun g1292:OV=>[own Edu.K g1292.1 t1290,blk g1265.1 156 [eq g1265.2.1.1,eq g1265.2.2.1],HHeap.O g1265.2.2 a0.fturns,blk b1259 80 (Edu.enc a1)]++F) rfl trivial cal210 rfl (slices_Insert_Edu.c h1291 (p0_:=g1265.2.1)) (perm_to (L:=[blk g1265.1 156 [eq g1265.2.1.1,eq g1265.2.2.1],own Edu.K g1265.2.1.1 a0.fl,HHeap.O g1265.2.2 a0.fturns,blk b1259 80 (Edu.enc a1)]) (F:=F) [1,0,2,3] rfl rfl rfl) rfl (fun _=>pendc (pend_by (by kernel_rfl) (pend_by (by kernel_rfl) (pend_by (by kernel_rfl) (pend_by (by kernel_rfl) (pend_by (by kernel_rfl) (pend_by (by kernel_rfl) (pend_by (by kernel_rfl) (pend_in (fun _=>trivial) pend_nil))))))))) (fun g1292 _=>?_)
  refine Dv.nilpp h1266 rfl trivial rfl<|fp h1266 rfl trivial rfl fa156_0<|sx 1 rfl trivial rfl rfl (cells_one one_ov) sz40 rfl rfl rfl pB ?_
  refine .fin ?_
  have H:=H.out
  refine ng (PTab.shut (p:=p0_) (m:=(⟨t1290,a0.fturns⟩:PTab)) (g1265.1,g1292,g1265.2.2) h1266 (pm 4 [1,0,2,3])) fun _ _=>?_
  refine ng (sg 2 [1,0] 0) fun _ _=>?_
  exact jn (false,false,false,(⟨t1290,a0.fturns⟩:PTab)) H
 have H:=H.ct c1279
 refine lds 3 rfl (gg rfl) rfl sg80 rfl rfl<|mvg rfl rfl rfl<|Dv.nilpp h1266 rfl (gg rfl) rfl<|fp h1266 rfl (gg rfl) rfl fa156_0<|ld 0 rfl (gg rfl) rfl sc40 rfl rfl<|mvg rfl rfl rfl<|gr H fun g1280 H=>?_
 have h1281:t1267.1.toNat < a0.fl.length:=idx_lt g1280
 refine Dv.ixw rfl (gg rfl) rfl (mem_at 1 rfl) rfl Tryz.underlying40 Tryz.underlying80 c80 g1280.1 g1280.2<|Dv.ldws (j:=t1267.1.toNat) (f:=0) rfl (gg rfl) rfl (mem_at 1 rfl) h1281 Tryz.underlying80 rfl c80 (Nat.le_of_ble_eq_true rfl)<|el H fun t1282 h1283 H=>Dv.call rfl (gg rfl) cal144 rfl (edu_Later.c h1283)<|ung rfl rfl rfl (run_not _)<|pt0 rfl rfl rfl<|as0 rfl rfl<|.fin<|cd H rfl (fun _ H=>?_) (fun _ H=>?_)
 ·
  refine WP.seq<|rg 2 0<|as0 rfl rfl<|as0 rfl rfl<|.fin<|wg (PTab.shut (p:=p0_) (m:=a0) (g1265.1,g1265.2.1,g1265.2.2) h1266 (pm 4 [0,1,2,3])) fun _ _=>?_
  have H:=H.outr
  cases H.out; exact rt i2 rfl () 2 [1,0] 1 (.cons (res_tmp rfl) (.cons (res_tmp rfl) .nil))
 refine WP.seq<|rg 2 0<|mv0 rfl rfl<|as0 rfl rfl<|.fin<|WP.cond rfl (fun _=>?_) nofun
 refine dg Tryz.checked.mixed 8 128<|mv0 rfl rfl<|Dv.nilpp h1266 rfl trivial rfl<|fp h1266 rfl trivial rfl fa156_0<|ld 0 rfl trivial rfl sc40 rfl rfl<|mv0 rfl rfl<|lds 3 rfl trivial rfl sg80 rfl rfl<|gr H fun g1286 H=>?_
 have h1287:t1267.1.toNat < a0.fl.length:=idx_lt g1286
 refine Dv.ixw rfl trivial rfl (mem_at 1 rfl) rfl Tryz.underlying40 Tryz.underlying80 c80 g1286.1 g1286.2<|Dv.stw (j:=t1267.1.toNat) (f:=0) (jj:=1) a1 rfl trivial rfl rfl (cells_agg (Edu.K.one _)) Tryz.underlying80 c80 rfl rfl h1287 (Nat.le_of_ble_eq_true rfl) rfl (fun _=>pend_bits (by kernel_rfl))<|.fin ?_
 have H:=H.out
 refine ng (PTab.shut (p:=p0_) (m:=(⟨a0.fl.set t1267.1.toNat a1,a0.fturns⟩:PTab)) (g1265.1,g1265.2.1,g1265.2.2) h1266 (pm 4 [0,1,2,3])) fun _ _=>?_
 refine ng (sg 2 [1,0] 0) fun _ _=>?_
 exact jn (true,!t1282,true,(⟨a0.fl.set t1267.1.toNat a1,a0.fturns⟩:PTab)) H
theorem sync_UserKey.c {a0:ByteArray} {r:ByteArray} (h:sync_UserKey.f a0 = some r):Pt Tryz.prog 138 [vS a0] (vS r):=by
 unfold sync_UserKey.f at h
 refine pb Tryz.func138 Tryz.ntmps138 h fun R0 F H=>?_
 refine WP.seq<|rg 1 0<|as0 rfl rfl<|.fin<|WP.seq<|rg 3 0<|mv0 rfl rfl<|gr H fun g1293 H=>bn0 rfl rfl rfl (run_cat g1293)<|as0 rfl rfl<|.fin ?_
 cases H.out; exact r0 i2 rfl (.cons (res_tmp rfl) .nil)
theorem server_Server_put.c {k:Nat} {a0:SSelTicStaAllComSen} {a1:Edu} {p0_:OV} {r:Int×SSelTicStaAllComSen} (h:server_Server_put.f k a0 a1 = some r):Tr Tryz.prog 81 [eq p0_.1,agg (Edu.enc a1)] [lax,SSelTicStaAllComSen.O p0_ a0] (γ:=Unit) (fun _=>True) (fun g=>vI r.1) (fun g=>[lax,SSelTicStaAllComSen.O p0_ r.2]):=by
 unfold server_Server_put.f at h
 refine tb Tryz.func81 Tryz.ntmps81 h fun R0 F H=>?_
 refine WP.seq<|rg 2 1<|Dv.box rfl trivial rfl cA nofun fun b1294=>as0 rfl rfl<|.fin<|WP.seq<|rg 1 0<|as0 rfl rfl<|.fin<|WP.seq<|rg 1 0<|as0 rfl rfl<|.fin<|WP.seq<|rg 1 0<|as0 rfl rfl<|.fin<|WP.seq<|WP.seq<|rg 2 0<|fb rfl trivial rfl fa80_0<|ld 0 rfl trivial rfl sc3 rfl rfl<|.fin<|WP.block<|WP.seq<|rg 2 0<|bn0 rfl rfl rfl run_eq<|as0 rfl rfl<|.fin<|cd H rfl (fun _ H=>?_) (fun _ H=>?_)
 ·
  refine WP.seq<|wg (SSelTicStaAllComSen.opn 2 rfl) fun g1296 h1297=>?_
  refine dg Tryz.checked.mixed 17 2048<|mv0 rfl rfl<|Dv.nilpp h1297 rfl trivial rfl<|fp h1297 rfl trivial rfl fa102_3<|fb rfl trivial rfl fa99_1<|ld 0 rfl trivial rfl sc88 rfl rfl<|mv0 rfl rfl<|Dv.nilpp h1297 rfl trivial rfl<|fp h1297 rfl trivial rfl fa102_3<|fb rfl trivial rfl fa99_0<|ld 0 rfl trivial rfl sc33 rfl rfl<|lds 10 rfl trivial rfl sg80 rfl rfl<|el H fun t1298 h1299 H=>cx 12 [4,3,0,1,2,5,6,7,8,9,10,11] cal95 (marks_Marks_Put.c h1299 (p0_:=g1296.2.2.2.2.1) (p1_:=g1296.2.2.2.1)) pC fun _ _=>?_
  refine mv0 rfl rfl<|ex0 rfl trivial rfl rfl<|ex0 rfl trivial rfl rfl<|as0 rfl rfl<|as0 rfl rfl<|.fin<|rg 4 0<|lds 10 rfl trivial rfl sg80 rfl rfl<|el H fun t1300 h1301 H=>cl rfl cal98 rfl (marks_Of.c h1301)<|el H fun t1302 h1303 H=>cll 12 [11,0,1,2,3,4,5,6,7,8,9,10] cal66 (sync_MarkKey.c h1303) ?_
  refine as0 rfl rfl<|.fin<|WP.seq<|WP.seq<|rg 1 0<|mv0 rfl rfl<|.fin<|cd H rfl (fun _ H=>?_) (fun _ H=>?_)
  rotate_left
  ·
   refine WP.skip<|WP.seq<|rg 2 0<|mv0 rfl rfl<|as0 rfl rfl<|.fin<|wg (SSelTicStaAllComSen.shut (p:=p0_) (m:=(⟨a0.fself,a0.ftick,a0.fstamps,(⟨a0.fall.fView,t1298.2.2,a0.fall.fTyping,a0.fall.fPresence,a0.fall.fLog⟩:Src),a0.fcome,a0.fsenders⟩:SSelTicStaAllComSen)) (g1296.1,g1296.2.1,g1296.2.2.1,g1296.2.2.2.1,g1296.2.2.2.2.1,g1296.2.2.2.2.2.1,g1296.2.2.2.2.2.2.1,g1296.2.2.2.2.2.2.2.1,g1296.2.2.2.2.2.2.2.2.1,g1296.2.2.2.2.2.2.2.2.2) h1297 (pm 12 [2,3,4,1,0,5,6,7,8,9,10,11])) fun _ _=>?_
   cases H.out; exact rt i2 rfl () 3 [1,2,0] 1 (.cons (res_tmp rfl) .nil)
  refine rg 3 4<|mv0 rfl rfl<|mv0 rfl rfl<|vg (SSelTicStaAllComSen.shut (p:=p0_) (m:=(⟨a0.fself,a0.ftick,a0.fstamps,(⟨a0.fall.fView,t1298.2.2,a0.fall.fTyping,a0.fall.fPresence,a0.fall.fLog⟩:Src),a0.fcome,a0.fsenders⟩:SSelTicStaAllComSen)) (g1296.1,g1296.2.1,g1296.2.2.1,g1296.2.2.2.1,g1296.2.2.2.2.1,g1296.2.2.2.2.2.1,g1296.2.2.2.2.2.2.1,g1296.2.2.2.2.2.2.2.1,g1296.2.2.2.2.2.2.2.2.1,g1296.2.2.2.2.2.2.2.2.2) h1297 (pm 12 [2,3,4,1,0,5,6,7,8,9,10,11])) fun _ _=>?_
  refine el H fun t1305 h1306 H=>cx 3 [0,1,2] cal65 (server_Server_note.c h1306 (p0_:=p0_)) nofun fun _ _=>?_
  refine .fin<|WP.seq<|rg 2 0<|mv0 rfl rfl<|as0 rfl rfl<|.fin ?_
  cases H.out; exact rt i2 rfl () 3 [1,2,0] 1 (.cons (res_tmp rfl) .nil)
 refine WP.seq<|rg 2 0<|bn0 rfl rfl rfl run_eq<|as0 rfl rfl<|.fin<|cd H rfl (fun _ H=>?_) (fun _ H=>?_)
 ·
  refine WP.seq<|wg (SSelTicStaAllComSen.opn 2 rfl) fun g1308 h1309=>?_
  refine dg Tryz.checked.mixed 12 64<|mv0 rfl rfl<|Dv.nilpp h1309 rfl trivial rfl<|fp h1309 rfl trivial rfl fa102_3<|fb rfl trivial rfl fa99_2<|ld 0 rfl trivial rfl sc94 rfl rfl<|lds 10 rfl trivial rfl sg80 rfl rfl<|el H fun t1310 h1311 H=>cx 12 [5,0,1,2,3,4,6,7,8,9,10,11] cal135 (typing_Table_Put.c h1311 (p0_:=g1308.2.2.2.2.2.1)) pC fun _ _=>?_
  refine mv0 rfl rfl<|ex0 rfl trivial rfl rfl<|ex0 rfl trivial rfl rfl<|as0 rfl rfl<|as0 rfl rfl<|.fin<|rg 4 0<|fb rfl trivial rfl fa80_1<|ld 10 rfl trivial rfl sc9 rfl rfl<|el H fun t1312 h1313 H=>cl rfl cal136 rfl (sync_RoomKey.c h1313)<|as0 rfl rfl<|.fin<|WP.seq<|WP.seq<|rg 1 0<|mv0 rfl rfl<|.fin<|cd H rfl (fun _ H=>?_) (fun _ H=>?_)
  rotate_left
  ·
   refine WP.skip<|WP.seq<|rg 2 0<|mv0 rfl rfl<|as0 rfl rfl<|.fin<|wg (SSelTicStaAllComSen.shut (p:=p0_) (m:=(⟨a0.fself,a0.ftick,a0.fstamps,(⟨a0.fall.fView,a0.fall.fMarks,t1310.2.2,a0.fall.fPresence,a0.fall.fLog⟩:Src),a0.fcome,a0.fsenders⟩:SSelTicStaAllComSen)) (g1308.1,g1308.2.1,g1308.2.2.1,g1308.2.2.2.1,g1308.2.2.2.2.1,g1308.2.2.2.2.2.1,g1308.2.2.2.2.2.2.1,g1308.2.2.2.2.2.2.2.1,g1308.2.2.2.2.2.2.2.2.1,g1308.2.2.2.2.2.2.2.2.2) h1309 (pm 12 [1,2,3,4,5,0,6,7,8,9,10,11])) fun _ _=>?_
   cases H.out; exact rt i2 rfl () 3 [1,2,0] 1 (.cons (res_tmp rfl) .nil)
  refine rg 3 4<|mv0 rfl rfl<|mv0 rfl rfl<|vg (SSelTicStaAllComSen.shut (p:=p0_) (m:=(⟨a0.fself,a0.ftick,a0.fstamps,(⟨a0.fall.fView,a0.fall.fMarks,t1310.2.2,a0.fall.fPresence,a0.fall.fLog⟩:Src),a0.fcome,a0.fsenders⟩:SSelTicStaAllComSen)) (g1308.1,g1308.2.1,g1308.2.2.1,g1308.2.2.2.1,g1308.2.2.2.2.1,g1308.2.2.2.2.2.1,g1308.2.2.2.2.2.2.1,g1308.2.2.2.2.2.2.2.1,g1308.2.2.2.2.2.2.2.2.1,g1308.2.2.2.2.2.2.2.2.2) h1309 (pm 12 [1,2,3,4,5,0,6,7,8,9,10,11])) fun _ _=>?_
  refine el H fun t1315 h1316 H=>cx 3 [0,1,2] cal65 (server_Server_note.c h1316 (p0_:=p0_)) nofun fun _ _=>?_
  refine .fin<|WP.seq<|rg 2 0<|mv0 rfl rfl<|as0 rfl rfl<|.fin ?_
  cases H.out; exact rt i2 rfl () 3 [1,2,0] 1 (.cons (res_tmp rfl) .nil)
 refine WP.seq<|wg (SSelTicStaAllComSen.opn 2 rfl) fun g1317 h1318=>?_
 refine dg Tryz.checked.mixed 12 64<|mv0 rfl rfl<|Dv.nilpp h1318 rfl trivial rfl<|fp h1318 rfl trivial rfl fa102_3<|fb rfl trivial rfl fa99_3<|ld 0 rfl trivial rfl sc96 rfl rfl<|lds 10 rfl trivial rfl sg80 rfl rfl<|el H fun t1319 h1320 H=>cx 12 [6,0,1,2,3,4,5,7,8,9,10,11] cal137 (presence_Table_Put.c h1320 (p0_:=g1317.2.2.2.2.2.2.1)) pC fun _ _=>?_
 refine mv0 rfl rfl<|ex0 rfl trivial rfl rfl<|ex0 rfl trivial rfl rfl<|as0 rfl rfl<|as0 rfl rfl<|.fin<|rg 4 0<|fb rfl trivial rfl fa80_2<|ld 10 rfl trivial rfl sc9 rfl rfl<|el H fun t1321 h1322 H=>cl rfl cal138 rfl (sync_UserKey.c h1322)<|as0 rfl rfl<|.fin<|WP.seq<|WP.seq<|rg 1 0<|mv0 rfl rfl<|.fin<|cd H rfl (fun _ H=>?_) (fun _ H=>?_)
 rotate_left
 ·
  refine WP.skip<|WP.seq<|rg 2 0<|mv0 rfl rfl<|as0 rfl rfl<|.fin<|wg (SSelTicStaAllComSen.shut (p:=p0_) (m:=(⟨a0.fself,a0.ftick,a0.fstamps,(⟨a0.fall.fView,a0.fall.fMarks,a0.fall.fTyping,t1319.2.2,a0.fall.fLog⟩:Src),a0.fcome,a0.fsenders⟩:SSelTicStaAllComSen)) (g1317.1,g1317.2.1,g1317.2.2.1,g1317.2.2.2.1,g1317.2.2.2.2.1,g1317.2.2.2.2.2.1,g1317.2.2.2.2.2.2.1,g1317.2.2.2.2.2.2.2.1,g1317.2.2.2.2.2.2.2.2.1,g1317.2.2.2.2.2.2.2.2.2) h1318 (pm 12 [1,2,3,4,5,6,0,7,8,9,10,11])) fun _ _=>?_
  cases H.out; exact rt i2 rfl () 3 [1,2,0] 1 (.cons (res_tmp rfl) .nil)
 refine rg 3 4<|mv0 rfl rfl<|mv0 rfl rfl<|vg (SSelTicStaAllComSen.shut (p:=p0_) (m:=(⟨a0.fself,a0.ftick,a0.fstamps,(⟨a0.fall.fView,a0.fall.fMarks,a0.fall.fTyping,t1319.2.2,a0.fall.fLog⟩:Src),a0.fcome,a0.fsenders⟩:SSelTicStaAllComSen)) (g1317.1,g1317.2.1,g1317.2.2.1,g1317.2.2.2.1,g1317.2.2.2.2.1,g1317.2.2.2.2.2.1,g1317.2.2.2.2.2.2.1,g1317.2.2.2.2.2.2.2.1,g1317.2.2.2.2.2.2.2.2.1,g1317.2.2.2.2.2.2.2.2.2) h1318 (pm 12 [1,2,3,4,5,6,0,7,8,9,10,11])) fun _ _=>?_
 refine el H fun t1324 h1325 H=>cx 3 [0,1,2] cal65 (server_Server_note.c h1325 (p0_:=p0_)) nofun fun _ _=>?_
 refine .fin<|WP.seq<|rg 2 0<|mv0 rfl rfl<|as0 rfl rfl<|.fin ?_
 cases H.out; exact rt i2 rfl () 3 [1,2,0] 1 (.cons (res_tmp rfl) .nil)
theorem slices_Compact_string.c {a0:List ByteArray} {p0_:OV} {r:List ByteArray} (h:slices_Compact_string.f a0 = some r):Tr Tryz.prog 269 [eq p0_.1] [own strK p0_.1 a0] (γ:=OV) (fun _=>True) (fun g=>eq g.1) (fun g=>[own strK g.1 r]):=by
 unfold slices_Compact_string.f at h
 obtain ⟨h0,h5⟩:=(Gets.of h).grd
 obtain rfl:=Gets.out h5
 exact compact_tr (fun blk off cap ss w=>Go.Proofs.Any.slices_Compact_string Tryz.lays194 blk off cap ss w) (fun q cap w=>Go.Proofs.Any.slices_Compact_string_empty Tryz.lays194 q cap w) h0
theorem member_Homes.c {k:Nat} {a0:List ByteArray} {r:(List ByteArray)} (h:member_Homes.f k a0 = some r):Tr Tryz.prog 286 [sl strK a0] [] (γ:=OV) (fun _=>True) (fun g=>eq g.1) (fun g=>[own strK g.1 r]):=by
 unfold member_Homes.f at h
 refine tb Tryz.func286 Tryz.ntmps286 h fun R0 F H=>?_
 refine WP.seq<|rg 1 0<|as0 rfl rfl<|.fin<|WP.seq<|rg 1 0<|as0 rfl rfl<|.fin<|WP.seqn H (fun q1345:(Int×Bool×(List ByteArray))×OV=>q1345.1) (fun q1345:(Int×Bool×(List ByteArray))×OV=>[(3,eq q1345.2.1)]) (fun q1345:(Int×Bool×(List ByteArray))×OV=>[own strK q1345.2.1 q1345.1.2.2]++F) (fun q1345 H=>?_) (fun H=>?_)
 ·
  obtain ⟨p1326,v1327⟩:=q1345
  refine WP.seq<|rg 2 2<|mv0 rfl rfl<|el H fun t1328 h1329 H=>cx 1 [0] cal67 (slices_Sort_string.c h1329 (p0_:=v1327)) nofun fun _ _=>?_
  refine .fin<|WP.seq<|rg 3 2<|mv0 rfl rfl<|el H fun t1330 h1331 H=>cx 1 [0] cal269 (slices_Compact_string.c h1331 (p0_:=v1327)) nofun fun g1332 _=>?_
  refine as0 rfl rfl<|.fin ?_
  obtain rfl:=Gets.out H
  exact rt i2 rfl g1332 1 [0] 0 (.cons (res_tmp rfl) .nil)
 refine WP.seq<|rg 3 0<|mv0 rfl rfl<|Dv.lenl rfl trivial rfl Tryz.underlying23<|mv0 rfl rfl<|.fin<|WP.block<|wg (st_nil strK none) fun _ _=>?_
 refine wg (sg 1 [0] 0) fun _ _=>?_
 refine lp (fun j_ (p1344:Int×(List ByteArray)×OV)=>member_Homes.l0 k a0 j_ p1344.1 p1344.2.1) (0,([]:List ByteArray),nilV) H (fun p1344=>[(3,eq p1344.2.2.1),(7,sl strK a0),(8,vI (a0.length:Int)),(9,vI p1344.1)]) (fun p1344=>[own strK p1344.2.2.1 p1344.2.1]++F) ?_
 rintro j_ ⟨x1333,x1334,v1335⟩ H
 rcases j_ with _ | j1343
 ·
  exact (Gets.no H).elim
 try dsimp only at H
 rw [member_Homes.l0] at H
 refine WP.seq<|rg 1 0<|bn0 rfl rfl rfl run_lt<|.fin<|WP.seq<|cd H rfl (fun _ H=>?_) (fun _ H=>?_)
 rotate_left
 ·
  refine WP.exit ?_
  have H:=H.out
  exact jn ((x1333,decide (x1333 < (a0.length:Int)),x1334),v1335) H
 refine WP.skip<|WP.seq<|WP.block<|WP.seq<|rg 3 0<|gr H fun g1337 H=>Dv.ixr rfl trivial rfl rfl Tryz.underlying23 Tryz.underlying9 c9 g1337.1 g1337.2<|ldR rfl trivial rfl sc9 rfl<|as0 rfl rfl<|.fin<|WP.seq<|rg 3 0<|mv0 rfl rfl<|el H fun t1338 h1339 H=>cl rfl cal129 rfl (name_Home.c h1339)<|as0 rfl rfl<|.fin<|WP.seq<|rg 2 0<|mv0 rfl rfl<|bn0 rfl rfl rfl run_sne<|.fin<|cd H rfl (fun _ H=>?_) (fun _ H=>?_)
 rotate_left
 ·
  exact WP.skip<|rg 2 0<|bn0 rfl rfl rfl run_add<|mv0 rfl rfl<|.fin<|bk j1343 (w64 (x1333 + 1),x1334,v1335) H
 refine rg 5 8<|mv0 rfl rfl<|mv0 rfl rfl<|Dv.lit strK ([t1338]:List ByteArray) (css:=[[vS t1338]]) rfl trivial Tryz.underlying23 Tryz.underlying9 c9 z9 rfl (by decide) (by decide) rfl ⟨(cells_one (one_eq rfl)),trivial⟩ rfl rfl rfl<|gr H fun g1341 H=>ap strK 0 ([t1338]:List ByteArray) src_sl Tryz.underlying23 (.inr ⟨_,Tryz.underlying23⟩) inf9 g1341 nofun fun v1342=>?_
 exact as0 rfl rfl<|.fin<|rg 2 0<|bn0 rfl rfl rfl run_add<|mv0 rfl rfl<|.fin<|bk j1343 (w64 (x1333 + 1),x1334++([t1338]:List ByteArray),v1342) H
theorem member_Users.c {k:Nat} {a0:DDag} {b0_:Nat} {v0_0:OV} {r:List ByteArray} (h:member_Users.f k a0 = some r):Tr Tryz.prog 287 [eq (.pointer (some ⟨b0_,0,none⟩))] [blk b0_ 274 [vS a0.froom,eq v0_0.1],mpo Value.string DNode.O v0_0.1 a0.fnodes] (γ:=OV) (fun _=>True) (fun g=>eq g.1) (fun g=>[blk b0_ 274 [vS a0.froom,eq v0_0.1],mpo Value.string DNode.O v0_0.1 a0.fnodes,own strK g.1 r]):=by
  unfold member_Users.f at h
  obtain ⟨m,hm,h1⟩:=(Gets.of h).call
  obtain ⟨h0,h5⟩:=h1.grd
  obtain rfl:=Gets.out h5
  clear h h5
  refine Tr.body Tryz.func287 (c:=_) rfl Tryz.ntmps287 (Nat.le_of_ble_eq_true rfl) fun R0 F=>?_
  refine WP.seq<|rg 1 0<|as0 rfl rfl<|.fin<|WP.seq<|rg 1 0<|as0 rfl rfl<|.fin ?_
  refine WP.seqj (β:=List Nat×OV) (fun b=>b.1.Perm (List.range m.length)) (fun b=>[(3,eq b.2.1)]) (fun b=>[own strK b.2.1 (selM m (fun e=>some e.1) b.1),blk b0_ 274 [vS a0.froom,eq v0_0.1],mpo Value.string DNode.O v0_0.1 a0.fnodes]++F) (fun b hb=>?_) ?_
  rotate_left
  · refine WP.seq<|rg 3 6<|mv0 rfl rfl<|cx 2 [0,1] cal238 (member_joined.c hm (b0_:=b0_) (v0_0:=v0_0)) nofun fun gm _=>?_
    refine Dv.gh (l':=fun _:Unit=>[blk b0_ 274 [vS a0.froom,eq v0_0.1],mpo Value.string DNode.O v0_0.1 a0.fnodes,mp Value.string (fun x:Int=>vI x) gm.1 m]++F) (gh_of (ok:=fun _=>True) fun R w k=>⟨(),trivial,k⟩) (fun _ _=>?_)
    refine Dv.gh (l':=fun _:Unit=>[mp Value.string (fun x:Int=>vI x) gm.1 m,blk b0_ 274 [vS a0.froom,eq v0_0.1],mpo Value.string DNode.O v0_0.1 a0.fnodes]++F) (gh_of (st_selgn 3 [2,0,1] 0 (by kernel_rfl) rfl rfl)) (fun _ _=>?_)
    refine Dv.rgb (jj:=0) rfl trivial rfl rfl Tryz.underlying139 nofun (fun q=>.fin ?_)
    refine WP.gh (l':=fun _:Unit=>[rng Value.string (fun x:Int=>vI x) gm.1 q.1 m [],blk b0_ 274 [vS a0.froom,eq v0_0.1],mpo Value.string DNode.O v0_0.1 a0.fnodes]++F) (gh_of (ok:=fun _=>True) fun R w k=>⟨(),trivial,k⟩) (fun _ _=>?_)
    refine WP.gh (l':=fun _:Unit=>[own strK nilV.1 [],rng Value.string (fun x:Int=>vI x) gm.1 q.1 m [],blk b0_ 274 [vS a0.froom,eq v0_0.1],mpo Value.string DNode.O v0_0.1 a0.fnodes]++F) (gh_of (st_nil strK none)) (fun _ _=>?_)
    refine WP.block ?_
    refine WP.weak (E':=(fun b:List Nat×OV=>[(3,eq b.2.1),(7,eq q.1)]) ([],nilV)) (weak_cons rfl (weak_cons rfl weak_nil)) (WP.loop (β:=List Nat×OV) (fun k b=>b.1.length + k = m.length) (fun b=>[(3,eq b.2.1),(7,eq q.1)]) (fun b=>[own strK b.2.1 (selM m (fun e=>some e.1) b.1),rng Value.string (fun x:Int=>vI x) gm.1 q.1 m b.1,blk b0_ 274 [vS a0.froom,eq v0_0.1],mpo Value.string DNode.O v0_0.1 a0.fnodes]++F) ?_ (k:=m.length) (b:=([],nilV)) (Nat.zero_add _))
    rintro k ⟨is,v⟩ hk
    replace hk:is.length + k = m.length:=hk
    refine WP.seq<|rg 2 1<|Dv.rgn (jj:=1) rfl trivial rfl rfl nofun (fun z hz=>?_)
    rcases z with _ | j
    · have hz:is.Perm (List.range m.length):=hz
      refine ex0 rfl trivial rfl rfl<|.fin<|WP.seq<|WP.cond rfl nofun (fun _=>WP.exit ?_)
      refine Dn.gh (l':=fun _:Unit=>[own strK v.1 (selM m (fun e=>some e.1) is),rng Value.string (fun x:Int=>vI x) gm.1 q.1 m is,blk b0_ 274 [vS a0.froom,eq v0_0.1],mpo Value.string DNode.O v0_0.1 a0.fnodes]++F) (gh_of (ok:=fun _=>True) fun R w k=>⟨(),trivial,k⟩) (fun _ _=>?_)
      refine Dn.gh (l':=fun _:Unit=>[mp Value.string (fun x:Int=>vI x) gm.1 m,own strK v.1 (selM m (fun e=>some e.1) is),blk b0_ 274 [vS a0.froom,eq v0_0.1],mpo Value.string DNode.O v0_0.1 a0.fnodes]++F) (gh_of (st_rge (pm 4 [1,0,2,3]))) (fun _ _=>?_)
      refine Dn.gh (l':=fun _:Unit=>[own strK v.1 (selM m (fun e=>some e.1) is),blk b0_ 274 [vS a0.froom,eq v0_0.1],mpo Value.string DNode.O v0_0.1 a0.fnodes]++F) (gh_of (st_selgn 4 [0,1,2,3] 1 (by kernel_rfl) rfl rfl)) (fun _ _=>?_)
      exact Jn.mk (is,v) hz (weak_cons rfl weak_nil) (List.Perm.refl _)
    have hz:j < m.length∧j ∉ is∧is.length < m.length:=hz
    obtain ⟨e,he⟩:∃ e,m[j]? = some e:=⟨_,List.getElem?_eq_getElem hz.1⟩
    have hep:=he
    have hlt:=hz.2.2
    have hsl:=Nat.le_trans (selM_len (m:=m) (f:=(fun e=>some e.1)) (is:=is)) (Nat.le_of_lt hlt)
    have e1:nxV Value.string (fun x:Int=>vI x) m (some j) = tup [vB true,vS e.1,vI e.2]:=by simp only [nxV,hep]
    rw [e1]
    refine ex0 rfl trivial rfl rfl<|.fin<|WP.seq<|WP.cond rfl (fun _=>WP.skip ?_) nofun
    refine WP.gh (l':=fun _:Unit=>[own strK v.1 (selM m (fun e=>some e.1) is),rng Value.string (fun x:Int=>vI x) gm.1 q.1 m (is++[j]),blk b0_ 274 [vS a0.froom,eq v0_0.1],mpo Value.string DNode.O v0_0.1 a0.fnodes]++F) (gh_of (ok:=fun _=>True) fun R w k=>⟨(),trivial,k⟩) (fun _ _=>?_)
    refine WP.block<|WP.seq<|rg 3 0<|Dv.rge 1 rfl trivial rfl rfl hep ?_
    refine ex0 rfl trivial rfl rfl<|as0 rfl rfl<|.fin ?_
    have e6:=selM_some (f:=(fun e=>some e.1)) (is:=is) he rfl
    have hbd:(selM m (fun e=>some e.1) is).length + ([e.1]:List ByteArray).length≤9223372036854775807∧((selM m (fun e=>some e.1) is).length + ([e.1]:List ByteArray).length) * 16≤140737488355328:=by rw [List.length_singleton]; omega
    refine rg 5 8<|mv0 rfl rfl<|mv0 rfl rfl<|Dv.lit strK ([e.1]:List ByteArray) (css:=[[vS e.1]]) rfl trivial Tryz.underlying23 Tryz.underlying9 c9 z9 rfl (by decide) (by decide) rfl ⟨(cells_one (one_eq rfl)),trivial⟩ rfl rfl rfl<|ap strK 0 ([e.1]:List ByteArray) src_sl Tryz.underlying23 (.inr ⟨_,Tryz.underlying23⟩) inf9 hbd nofun fun v9=>as0 rfl rfl<|.fin ?_
    rw [e6]
    exact Back.mk (k - 1) (is++[j],v9) (by omega) (by show (is++[j]).length + (k - 1) = _; rw [List.length_append,List.length_singleton]; omega) (weak_cons rfl (weak_cons rfl weak_nil)) (List.Perm.refl _)
  obtain ⟨is,v3⟩:=b
  replace hb:is.Perm (List.range m.length):=hb
  have hp:=selM_perm (f:=(fun e=>some e.1)) hb
  have hs:slices_Sort_string.f (selM m (fun e=>some e.1) is) = some (srtS (m.map (·.1))):=by
    have e7:m.filterMap (fun e=>some e.1) = m.map (·.1):=by rw [← List.filterMap_eq_map]; rfl
    rw [e7] at hp
    unfold slices_Sort_string.f Sp.grd
    rw [if_pos (by rw [hp.length_eq,List.length_map]; omega),srtS_eq hp]
  refine WP.seq<|rg 2 2<|mv0 rfl rfl<|cx 3 [0,1,2] cal67 (slices_Sort_string.c hs (p0_:=v3)) nofun fun _ _=>.fin ?_
  refine WP.seq<|rg 2 0<|mv0 rfl rfl<|as0 rfl rfl<|.fin<|rt i2 rfl v3 3 [1,2,0] 0 (.cons (res_tmp rfl) .nil)
theorem member_Servers.c {k:Nat} {a0:DDag} {v0_0:OV} {b0_:Nat} {r:(List ByteArray)} (h:member_Servers.f k a0 = some r):Tr Tryz.prog 270 [eq (.pointer (some ⟨b0_,0,none⟩))] [blk b0_ 274 [vS a0.froom,eq v0_0.1],mpo Value.string DNode.O v0_0.1 a0.fnodes] (γ:=OV) (fun _=>True) (fun g=>eq g.1) (fun g=>[blk b0_ 274 [vS a0.froom,eq v0_0.1],mpo Value.string DNode.O v0_0.1 a0.fnodes,own strK g.1 r]):=by
 unfold member_Servers.f at h
 refine tb Tryz.func270 Tryz.ntmps270 h fun R0 F H=>?_
 refine WP.seq<|rg 1 0<|as0 rfl rfl<|.fin<|WP.seq<|rg 4 6<|mv0 rfl rfl<|el H fun t1346 h1347 H=>cx 2 [0,1] cal287 (member_Users.c h1347 (b0_:=b0_) (v0_0:=v0_0)) nofun fun g1348 _=>?_
 refine el H fun t1349 h1350 H=>cx 3 [2,0,1] cal286 (Tr.lend [own strK g1348.1 t1346] (member_Homes.c h1350) (.cons (lt_own (mem_at 0 rfl)) .nil) (fun _=>flat_eq) (fun _=>(flatAs_cons (flatA_own flatK_str) flatAs_nil))) nofun fun g1351 _=>?_
 refine as0 rfl rfl<|.fin ?_
 obtain rfl:=Gets.out H
 exact rt i2 rfl g1351 4 [0,2,3,1] 1 (.cons (res_tmp rfl) .nil)
theorem view_View_Servers.c {k:Nat} {a0:VView} {a1:ByteArray} {v0_0:OV} {b0_:Nat} {r:(List ByteArray)} (h:view_View_Servers.f k a0 a1 = some r):Tr Tryz.prog 217 [eq (.pointer (some ⟨b0_,0,none⟩)),vS a1] [blk b0_ 150 [eq v0_0.1],mpo Value.string DDag.O v0_0.1 a0.fdags] (γ:=OV) (fun _=>True) (fun g=>eq g.1) (fun g=>[blk b0_ 150 [eq v0_0.1],mpo Value.string DDag.O v0_0.1 a0.fdags,own strK g.1 r]):=by
 unfold view_View_Servers.f at h
 refine tb Tryz.func217 Tryz.ntmps217 h fun R0 F H=>?_
 refine WP.seq<|rg 1 0<|as0 rfl rfl<|.fin<|WP.seq<|rg 5 12<|mv0 rfl rfl<|mv0 rfl rfl<|el H fun t1352 h1353 H=>cx 2 [0,1] cal92 (view_View_room.c h1353 (b0_:=b0_) (v0_0:=v0_0)) nofun fun v1354 _=>?_
 refine vg (DDag.opn 2 rfl) fun g1355 h1356=>?_
 refine el H fun t1357 h1358 H=>cx 4 [0,1,2,3] cal270 (Tr.weak (member_Servers.c h1358 (b0_:=g1355.1) (v0_0:=g1355.2)) (.cons (wk_ptr h1356) .nil)) nofun fun g1359 _=>?_
 refine as0 rfl rfl<|.fin<|wg (DDag.shut (p:=v1354) (m:=t1352) (g1355.1,g1355.2) h1356 (pm 5 [0,1,2,3,4])) fun _ _=>?_
 refine wg (mpl_back0 (view_View_room.r h1353) (pm 4 [3,0,1,2])) fun _ _=>?_
 obtain rfl:=Gets.out H
 exact rt i2 rfl g1359 3 [2,0,1] 0 (.cons (res_tmp rfl) .nil)
theorem view_View_Peers.c {k:Nat} {a0:VView} {a1:ByteArray} {p0_:OV} {r:(List ByteArray)} (h:view_View_Peers.f k a0 a1 = some r):Tr Tryz.prog 216 [eq p0_.1,vS a1] [VView.O p0_ a0] (γ:=OV) (fun _=>True) (fun g=>eq g.1) (fun g=>[VView.O p0_ a0,own strK g.1 r]):=by
 unfold view_View_Peers.f at h
 refine tb Tryz.func216 Tryz.ntmps216 h fun R0 F H=>?_
 refine WP.seq<|rg 1 0<|as0 rfl rfl<|.fin<|WP.seq<|rg 1 0<|as0 rfl rfl<|.fin<|WP.seqn H (fun q1386:(Int×Int×Bool×(List ByteArray)×(List ByteArray))×OV×OV=>q1386.1) (fun q1386:(Int×Int×Bool×(List ByteArray)×(List ByteArray))×OV×OV=>[(5,eq q1386.2.1.1)]) (fun q1386:(Int×Int×Bool×(List ByteArray)×(List ByteArray))×OV×OV=>[VView.O p0_ a0,own strK q1386.2.1.1 q1386.1.2.2.2.1,own strK q1386.2.2.1 q1386.1.2.2.2.2]++F) (fun q1386 H=>?_) (fun H=>?_)
 ·
  obtain ⟨p1360,v1361,v1362⟩:=q1386
  refine WP.seq<|rg 2 2<|mv0 rfl rfl<|el H fun t1363 h1364 H=>cx 3 [1,0,2] cal67 (slices_Sort_string.c h1364 (p0_:=v1361)) nofun fun _ _=>?_
  refine .fin<|WP.seq<|rg 3 2<|mv0 rfl rfl<|el H fun t1365 h1366 H=>cx 3 [0,1,2] cal269 (slices_Compact_string.c h1366 (p0_:=v1361)) nofun fun g1367 _=>?_
  refine as0 rfl rfl<|.fin ?_
  obtain rfl:=Gets.out H
  exact rt i2 rfl g1367 3 [2,1,0] 1 (.cons (res_tmp rfl) .nil)
 refine WP.seq<|rg 5 4<|mv0 rfl rfl<|mv0 rfl rfl<|el H fun t1368 h1369 H=>cx 1 [0] cal130 (view_View_RoomsOf.c h1369 (p0_:=p0_)) nofun fun g1370 _=>?_
 refine Dv.lenw rfl trivial rfl (mem_at 1 rfl) Tryz.underlying23<|mv0 rfl rfl<|.fin<|WP.block<|wg (st_nil strK none) fun _ _=>?_
 refine wg (sg 3 [1,2,0] 0) fun _ _=>?_
 refine lp (fun j_ (p1385:Int×(List ByteArray)×OV)=>view_View_Peers.l0 k a0 t1368 j_ p1385.1 p1385.2.1) (0,([]:List ByteArray),nilV) H (fun p1385=>[(0,eq p0_.1),(5,eq p1385.2.2.1),(10,eq g1370.1),(11,vI (t1368.length:Int)),(12,vI p1385.1)]) (fun p1385=>[VView.O p0_ a0,own strK g1370.1 t1368,own strK p1385.2.2.1 p1385.2.1]++F) ?_
 rintro j_ ⟨x1371,x1372,v1373⟩ H
 rcases j_ with _ | j1384
 ·
  exact (Gets.no H).elim
 try dsimp only at H
 rw [view_View_Peers.l0] at H
 refine WP.seq<|rg 1 0<|bn0 rfl rfl rfl run_lt<|.fin<|WP.seq<|cd H rfl (fun _ H=>?_) (fun _ H=>?_)
 rotate_left
 ·
  refine WP.exit ?_
  have H:=H.out
  refine ng (sg 3 [0,2,1] 0) fun _ _=>?_
  exact jn (((t1368.length:Int),x1371,decide (x1371 < (t1368.length:Int)),x1372,t1368),v1373,g1370) H
 refine WP.skip<|WP.seq<|WP.block<|WP.seq<|rg 3 0<|gr H fun g1375 H=>?_
 have h1376:x1371.toNat < t1368.length:=idx_lt g1375
 refine Dv.ixw rfl trivial rfl (mem_at 1 rfl) rfl Tryz.underlying23 Tryz.underlying9 c9 g1375.1 g1375.2<|Dv.ldw (j:=x1371.toNat) (f:=0) (p:=vS (t1368.getD x1371.toNat default)) rfl trivial rfl (mem_at 1 rfl) h1376 Tryz.underlying9 rfl rfl<|as0 rfl rfl<|.fin<|rg 6 24<|mv0 rfl rfl<|mv0 rfl rfl<|mv0 rfl rfl<|vg (VView.opn 0 rfl) fun g1377 h1378=>?_
 refine el H fun t1379 h1380 H=>cx 4 [0,1,2,3] cal217 (Tr.weak (view_View_Servers.c h1380 (b0_:=g1377.1) (v0_0:=g1377.2)) (.cons (wk_ptr h1378) (.cons wk_id .nil))) nofun fun g1381 _=>?_
 refine gr H fun g1382 H=>ap strK 4 t1379 (src_own (mem_at 2 rfl)) Tryz.underlying23 (.inr ⟨_,Tryz.underlying23⟩) inf9 g1382 nofun fun v1383=>?_
 refine as0 rfl rfl<|.fin<|rg 2 0<|bn0 rfl rfl rfl run_add<|mv0 rfl rfl<|.fin<|ng (VView.shut (p:=p0_) (m:=a0) (g1377.1,g1377.2) h1378 (pm 5 [0,1,2,3,4])) fun _ _=>?_
 refine ng (sg 4 [1,0,2,3] 1) fun _ _=>?_
 exact bk j1384 (w64 (x1371 + 1),x1372++t1379,v1383) H
theorem gate_reached.c {k:Nat} {a0:VView} {a1:Edu} {p0_:OV} {r:(List ByteArray)} (h:gate_reached.f k a0 a1 = some r):Tr Tryz.prog 139 [eq p0_.1,agg (Edu.enc a1)] [VView.O p0_ a0] (γ:=OV) (fun _=>True) (fun g=>eq g.1) (fun g=>[VView.O p0_ a0,own strK g.1 r]):=by
 unfold gate_reached.f at h
 refine tb Tryz.func139 Tryz.ntmps139 h fun R0 F H=>?_
 refine WP.seq<|rg 2 1<|Dv.box rfl trivial rfl cA nofun fun b1387=>as0 rfl rfl<|.fin<|WP.seq<|WP.block<|WP.seq<|rg 4 0<|lds 0 rfl trivial rfl sg80 rfl rfl<|el H fun t1388 h1389 H=>cl rfl cal142 rfl (edu_May.c h1389)<|un0 rfl rfl (run_not _)<|as0 rfl rfl<|.fin<|cd H rfl (fun _ H=>?_) (fun _ H=>?_)
 ·
  refine WP.seq<|rg 1 0<|as0 rfl rfl<|.fin<|wg (st_nil strK none) fun _ _=>?_
  obtain rfl:=Gets.out H
  exact rt i2 rfl nilV 3 [1,2,0] 1 (.cons (res_tmp rfl) .nil)
 refine WP.seq<|rg 4 0<|fb rfl trivial rfl fa80_0<|ld 0 rfl trivial rfl sc3 rfl rfl<|bn0 rfl rfl rfl run_eq<|as0 rfl rfl<|.fin<|cd H rfl (fun _ H=>?_) (fun _ H=>?_)
 ·
  refine WP.seq<|rg 5 8<|mv0 rfl rfl<|fb rfl trivial rfl fa80_2<|ld 0 rfl trivial rfl sc9 rfl rfl<|el H fun t1392 h1393 H=>cx 2 [1,0] cal216 (view_View_Peers.c h1393 (p0_:=p0_)) nofun fun g1394 _=>?_
  refine as0 rfl rfl<|.fin ?_
  obtain rfl:=Gets.out H
  exact rt i2 rfl g1394 3 [2,0,1] 1 (.cons (res_tmp rfl) .nil)
 refine WP.skip<|WP.seq<|rg 5 8<|mv0 rfl rfl<|fb rfl trivial rfl fa80_1<|ld 0 rfl trivial rfl sc9 rfl rfl<|vg (VView.opn 1 rfl) fun g1395 h1396=>?_
 refine el H fun t1397 h1398 H=>cx 3 [0,1,2] cal217 (Tr.weak (view_View_Servers.c h1398 (b0_:=g1395.1) (v0_0:=g1395.2)) (.cons (wk_ptr h1396) (.cons wk_id .nil))) nofun fun g1399 _=>?_
 refine as0 rfl rfl<|.fin<|wg (VView.shut (p:=p0_) (m:=a0) (g1395.1,g1395.2) h1396 (pm 4 [0,1,2,3])) fun _ _=>?_
 obtain rfl:=Gets.out H
 exact rt i2 rfl g1399 3 [2,0,1] 1 (.cons (res_tmp rfl) .nil)
theorem gate_Targets_1.c {a0:ByteArray} {c0:ByteArray} {r:Bool} (h:gate_Targets_1.f a0 c0 = some r):Pt Tryz.prog 140 [vS a0,rp [vS c0]] (vB r):=by
 unfold gate_Targets_1.f at h
 refine pb Tryz.func140 Tryz.ntmps140 h fun R0 F H=>?_
 refine WP.seq<|rg 1 0<|as0 rfl rfl<|.fin<|WP.seq<|rg 4 0<|mv0 rfl rfl<|ldR rfl trivial rfl sc9 rfl<|bn0 rfl rfl rfl run_seq<|as0 rfl rfl<|.fin ?_
 cases H.out; exact r0 i2 rfl (.cons (res_tmp rfl) .nil)
theorem gate_Targets.c {k:Nat} {a0:VView} {a1:ByteArray} {a2:Edu} {p0_:OV} {r:(List ByteArray)} (h:gate_Targets.f k a0 a1 a2 = some r):Tr Tryz.prog 82 [eq p0_.1,vS a1,agg (Edu.enc a2)] [VView.O p0_ a0] (γ:=OV) (fun _=>True) (fun g=>eq g.1) (fun g=>[VView.O p0_ a0,own strK g.1 r]):=by
 unfold gate_Targets.f at h
 refine tb Tryz.func82 Tryz.ntmps82 h fun R0 F H=>?_
 refine WP.seq<|rg 3 3<|Dv.box rfl trivial rfl cE nofun fun b1400=>Dv.box rfl trivial rfl cA nofun fun b1401=>as0 rfl rfl<|.fin<|WP.seq<|rg 6 20<|mv0 rfl rfl<|lds 0 rfl trivial rfl sg80 rfl rfl<|el H fun t1402 h1403 H=>cx 3 [2,0,1] cal139 (gate_reached.c h1403 (p0_:=p0_)) nofun fun g1404 _=>?_
 refine Dv.gh (gh_frzb (E':=[(0,eq p0_.1),(1,vS a1),(2,agg (Edu.enc a2)),(4,rp [vS a1]),(5,eq (.pointer (some ⟨b1401,0,none⟩))),(6,eq (.slice none 0 0)),(9,eq g1404.1)]) (l':=[VView.O p0_ a0,own strK g1404.1 t1402,blk b1401 80 (Edu.enc a2)]++F) 3 rfl (cve_cons rfl cv_id (cve_cons rfl cv_id (cve_cons rfl cv_id (cve_cons rfl cv_eq (cve_cons rfl cv_id (cve_cons rfl cv_id (cve_cons rfl cv_id cve_nil))))))) (all2_app (.cons cva_id (.cons cva_id (.cons cva_id .nil))) fun _=>cva_id)) (fun _ _=>?_)
 refine Dv.mkx (Q:=fqQ_string_bool (fun a0_=>gate_Targets_1.f a0_ a1)) (L:=[]) cal140 (by rintro _ _ ⟨a0_,r_,h_,rfl,rfl⟩; exact (gate_Targets_1.c h_).tr) rfl trivial rfl rfl<|el H fun t1405 h1406 H=>cx 3 [1,0,2] cal115 (Tr.unpko (A:=[own strK g1404.1 t1402]) (L:=[]) (B:=fun g1407:OV=>[own strK g1407.1 t1405]) (slices_DeleteFunc_string_xo.c h1406 (p0_:=g1404) (X1_:=(pk [])))) nofun fun g1407 _=>?_
 refine as0 rfl rfl<|.fin ?_
 obtain rfl:=Gets.out H
 exact rt i2 rfl g1407 3 [2,1,0] 1 (.cons (res_tmp rfl) .nil)
theorem queue_New.c {a0:Int} {r:(Option SQue)×Int} (h:queue_New.f a0 = some r):Tr Tryz.prog 141 [vI a0] [] (γ:=OV) (fun _=>True) (fun g=>tup [eq g.1,vI r.2]) (fun g=>[optO SQue.O g r.1]):=by
 unfold queue_New.f at h
 refine tb Tryz.func141 Tryz.ntmps141 h fun R0 F H=>?_
 refine WP.seq<|rg 2 0<|as0 rfl rfl<|as0 rfl rfl<|.fin<|WP.seq<|WP.seq<|rg 6 0<|mv0 rfl rfl<|bn0 rfl rfl rfl run_lt<|mv0 rfl rfl ?_
 rcases bem (decide (a0 < 1)) with c1408 | c1408
 rotate_left
 ·
  have H:=H.ct c1408
  refine Dv.gh (gh_sh 5 c1408 rfl) (fun _ _=>?_)
  refine Dv.gh (gh_sh 6 c1408 rfl) (fun _ _=>?_)
  refine sk rfl rfl<|sk rfl rfl<|pt0 rfl rfl rfl<|.fin<|WP.cond rfl (fun _=>?_) nofun
  refine WP.seq<|rg 2 0<|as0 rfl rfl<|as0 rfl rfl<|.fin<|wg (st_nilP (O:=SQue.O)) fun _ _=>?_
  obtain rfl:=Gets.out H
  exact rt i2 rfl nilP 1 [0] 0 (.cons (res_tmp rfl) (.cons (res_tmp rfl) .nil))
 have H:=H.cf c1408
 refine Dv.gh (gh_sh 5 c1408 rfl) (fun _ _=>?_)
 refine Dv.gh (gh_sh 6 c1408 rfl) (fun _ _=>?_)
 refine mvg rfl rfl rfl<|bng rfl rfl rfl rfl run_gt<|pf0 rfl rfl rfl<|.fin<|cd H rfl (fun _ H=>?_) (fun _ H=>?_)
 ·
  refine WP.seq<|rg 2 0<|as0 rfl rfl<|as0 rfl rfl<|.fin<|wg (st_nilP (O:=SQue.O)) fun _ _=>?_
  obtain rfl:=Gets.out H
  exact rt i2 rfl nilP 1 [0] 0 (.cons (res_tmp rfl) (.cons (res_tmp rfl) .nil))
 refine WP.skip<|WP.seq<|rg 6 10<|mv0 rfl rfl<|Dv.mmk EKey.kv (fun x:Edu=>agg (Edu.enc x)) rfl trivial nofun (fun v1411=>?_)
 refine Dv.bld (qs:=[vI a0,eq (.slice none 0 0),eq v1411.1,vI 0]) (css:=[[vI a0],[eq v1411.1]]) rfl trivial Tryz.underlying211 pl211 z211 rfl ⟨(cells_one (one_eq rfl)),⟨(cells_one one_ov),trivial⟩⟩ rfl rfl<|Dv.box rfl trivial rfl cA nofun fun b1412=>as0 rfl rfl<|as0 rfl rfl<|.fin<|wg (st_nil EKey.K none) fun _ _=>?_
 refine wg (SQue.shut (p:=(⟨.pointer (some ⟨b1412,0,none⟩),rfl⟩:OV)) (m:=(⟨a0,([]:List EKey),([]:List (EKey×Edu)),0⟩:SQue)) (b1412,nilV,v1411) rfl (pm 3 [1,0,2])) fun _ _=>?_
 obtain rfl:=Gets.out H
 exact rt i2 rfl (⟨.pointer (some ⟨b1412,0,none⟩),rfl⟩:OV) 1 [0] 0 (.cons (res_tmp rfl) (.cons (res_tmp rfl) .nil))
theorem sender_New.c {k:Nat} {a0:ByteArray} {a1:ByteArray} {a2:Int} {a3:Int} {r:(Option SSnd)×Int} (h:sender_New.f k a0 a1 a2 a3 = some r):Tr Tryz.prog 83 [vS a0,vS a1,vI a2,vI a3] [] (γ:=OV) (fun _=>True) (fun g=>tup [eq g.1,vI r.2]) (fun g=>[optO SSnd.O g r.1]):=by
 unfold sender_New.f at h
 refine tb Tryz.func83 Tryz.ntmps83 h fun R0 F H=>?_
 refine WP.seq<|rg 2 0<|as0 rfl rfl<|as0 rfl rfl<|.fin<|WP.seq<|WP.seq<|rg 13 0<|mv0 rfl rfl<|el H fun t1413 h1414 H=>cl rfl cal26 rfl (name_Server.c h1414)<|un0 rfl rfl (run_not _)<|mv0 rfl rfl ?_
 rcases bem (!t1413) with c1415 | c1415
 rotate_left
 ·
  have H:=H.ct c1415
  refine Dv.gh (gh_sh 15 c1415 rfl) (fun _ _=>?_)
  refine Dv.gh (gh_sh 16 c1415 rfl) (fun _ _=>?_)
  refine sk rfl rfl<|sk rfl rfl<|sk rfl rfl<|pt0 rfl rfl rfl<|mv0 rfl rfl<|sk rfl rfl<|sk rfl rfl<|sk rfl rfl<|pt0 rfl rfl rfl<|.fin<|WP.cond rfl (fun _=>?_) nofun
  refine WP.seq<|rg 2 0<|as0 rfl rfl<|as0 rfl rfl<|.fin<|wg (st_nilP (O:=SSnd.O)) fun _ _=>?_
  obtain rfl:=Gets.out H
  exact rt i2 rfl nilP 1 [0] 0 (.cons (res_tmp rfl) (.cons (res_tmp rfl) .nil))
 have H:=H.cf c1415
 refine Dv.gh (gh_sh 15 c1415 rfl) (fun _ _=>?_)
 refine Dv.gh (gh_sh 16 c1415 rfl) (fun _ _=>?_)
 refine mvg rfl rfl rfl<|el H fun t1417 h1418 H=>Dv.call rfl (gg rfl) cal26 rfl (name_Server.c h1418)<|ung rfl rfl rfl (run_not _)<|pf0 rfl rfl rfl<|mv0 rfl rfl ?_
 rcases bem (!t1417) with c1419 | c1419
 rotate_left
 ·
  have H:=H.ct c1419
  refine Dv.gh (gh_sh 19 c1419 rfl) (fun _ _=>?_)
  refine Dv.gh (gh_sh 20 c1419 rfl) (fun _ _=>?_)
  refine Dv.gh (gh_sh 21 c1419 rfl) (fun _ _=>?_)
  refine sk rfl rfl<|sk rfl rfl<|sk rfl rfl<|pt0 rfl rfl rfl<|.fin<|WP.cond rfl (fun _=>?_) nofun
  refine WP.seq<|rg 2 0<|as0 rfl rfl<|as0 rfl rfl<|.fin<|wg (st_nilP (O:=SSnd.O)) fun _ _=>?_
  obtain rfl:=Gets.out H
  exact rt i2 rfl nilP 1 [0] 0 (.cons (res_tmp rfl) (.cons (res_tmp rfl) .nil))
 have H:=H.cf c1419
 refine Dv.gh (gh_sh 19 c1419 rfl) (fun _ _=>?_)
 refine Dv.gh (gh_sh 20 c1419 rfl) (fun _ _=>?_)
 refine Dv.gh (gh_sh 21 c1419 rfl) (fun _ _=>?_)
 refine mvg rfl rfl rfl<|mvg rfl rfl rfl<|bng rfl rfl rfl rfl run_seq<|pf0 rfl rfl rfl<|.fin<|cd H rfl (fun _ H=>?_) (fun _ H=>?_)
 ·
  refine WP.seq<|rg 2 0<|as0 rfl rfl<|as0 rfl rfl<|.fin<|wg (st_nilP (O:=SSnd.O)) fun _ _=>?_
  obtain rfl:=Gets.out H
  exact rt i2 rfl nilP 1 [0] 0 (.cons (res_tmp rfl) (.cons (res_tmp rfl) .nil))
 refine WP.skip<|WP.seq<|rg 7 2<|mv0 rfl rfl<|el H fun t1422 h1423 H=>cx 0 [] cal141 (queue_New.c h1423) nofun fun g1424 _=>?_
 refine mv0 rfl rfl<|ex0 rfl trivial rfl rfl<|ex0 rfl trivial rfl rfl<|as0 rfl rfl<|as0 rfl rfl<|.fin<|WP.seq<|WP.seq<|rg 2 0<|mv0 rfl rfl<|bn0 rfl rfl rfl run_ne<|.fin<|cd H rfl (fun _ H=>?_) (fun _ H=>?_)
 ·
  refine WP.seq<|rg 3 0<|mv0 rfl rfl<|as0 rfl rfl<|as0 rfl rfl<|.fin<|wg (st_nilP (O:=SSnd.O)) fun _ _=>?_
  obtain rfl:=Gets.out H
  exact rt i2 rfl nilP 2 [1,0] 1 (.cons (res_tmp rfl) (.cons (res_tmp rfl) .nil))
 refine WP.skip<|WP.seq<|rg 7 2<|mv0 rfl rfl<|el H fun t1426 h1427 H=>cx 1 [0] cal27 (clock_New.c h1427) nofun fun g1428 _=>?_
 refine mv0 rfl rfl<|ex0 rfl trivial rfl rfl<|ex0 rfl trivial rfl rfl<|as0 rfl rfl<|as0 rfl rfl<|.fin<|WP.seq<|WP.seq<|rg 2 0<|mv0 rfl rfl<|bn0 rfl rfl rfl run_ne<|.fin<|cd H rfl (fun _ H=>?_) (fun _ H=>?_)
 ·
  refine WP.seq<|rg 3 0<|mv0 rfl rfl<|as0 rfl rfl<|as0 rfl rfl<|.fin<|wg (st_nilP (O:=SSnd.O)) fun _ _=>?_
  obtain rfl:=Gets.out H
  exact rt i2 rfl nilP 3 [1,2,0] 2 (.cons (res_tmp rfl) (.cons (res_tmp rfl) .nil))
 refine WP.skip<|WP.seq<|rg 8 32<|mv0 rfl rfl<|mv0 rfl rfl<|mv0 rfl rfl<|mv0 rfl rfl<|gr H fun g1430 H=>vg (opt_some 1 rfl (isN g1430)) fun _ _=>?_
 refine gr H fun g1431 H=>vg (opt_some 1 rfl (isN g1431)) fun _ _=>?_
 refine Dv.bld (qs:=[eq g1424.1,vS a0,vS a1,eq g1428.1,eq (.pointer none)]) (css:=[[eq g1424.1],[vS a0],[vS a1],[eq g1428.1]]) rfl trivial Tryz.underlying161 pl161 z161 rfl ⟨(cells_one one_ov),⟨(cells_one (one_eq rfl)),⟨(cells_one (one_eq rfl)),⟨(cells_one one_ov),trivial⟩⟩⟩⟩ rfl rfl<|Dv.box rfl trivial rfl cA nofun fun b1432=>as0 rfl rfl<|as0 rfl rfl<|.fin<|wg (st_nilP (O:=Fly.O)) fun _ _=>?_
 refine wg (SSnd.shut (p:=(⟨.pointer (some ⟨b1432,0,none⟩),rfl⟩:OV)) (m:=(⟨t1422.1.getD default,a0,a1,t1426.1.getD default,none⟩:SSnd)) (b1432,g1424,g1428,nilP) rfl (pm 4 [1,3,2,0])) fun _ _=>?_
 obtain rfl:=Gets.out H
 exact rt i2 rfl (⟨.pointer (some ⟨b1432,0,none⟩),rfl⟩:OV) 1 [0] 0 (.cons (res_tmp rfl) (.cons (res_tmp rfl) .nil))
theorem slices_IndexFunc_Key_xw.c {k:Nat} {a0:List EKey} {a1:(EKey→Option Bool)} {X1_:As} {p0_:OV} {r:Int} (h:slices_IndexFunc_Key_xw.f k a0 a1 = some r):Tr Tryz.prog 272 [eq p0_.1,fx_edu_Key_bool X1_ a1] [own EKey.K p0_.1 a0,X1_] (γ:=Unit) (fun _=>True) (fun g=>vI r) (fun g=>[own EKey.K p0_.1 a0,X1_]):=by
 unfold slices_IndexFunc_Key_xw.f at h
 refine tb Tryz.func272 Tryz.ntmps272 h fun R0 F H=>?_
 refine WP.seq<|rg 1 0<|as0 rfl rfl<|.fin<|WP.seqr H id (fun p1451:Int×Bool=>[]) (fun p1451:Int×Bool=>[own EKey.K p0_.1 a0,X1_]++F) (fun p1451 H=>?_) (fun H=>?_)
 ·
  refine WP.seq<|rg 1 0<|as0 rfl rfl<|.fin ?_
  cases H.out; exact rt i2 rfl () 2 [0,1] 0 (.cons (res_tmp rfl) .nil)
 refine WP.seq<|rg 3 0<|mv0 rfl rfl<|Dv.lenw rfl trivial rfl (mem_at 0 rfl) Tryz.underlying208<|mv0 rfl rfl<|.fin<|WP.block<|wg (sg 2 [0,1] 0) fun _ _=>?_
 refine lp (fun j_ (p1460:Int)=>slices_IndexFunc_Key_xw.l0 k a0 a1 j_ p1460) 0 H (fun p1460=>[(0,eq p0_.1),(1,fx_edu_Key_bool X1_ a1),(7,vI (a0.length:Int)),(8,vI p1460)]) (fun p1460=>[own EKey.K p0_.1 a0,X1_]++F) ?_
 rintro j_ x1452 H
 rcases j_ with _ | j1459
 ·
  exact (Gets.no H).elim
 try dsimp only at H
 rw [slices_IndexFunc_Key_xw.l0] at H
 refine WP.seq<|rg 1 0<|bn0 rfl rfl rfl run_lt<|.fin<|WP.seq<|cd H rfl (fun _ H=>?_) (fun _ H=>?_)
 rotate_left
 ·
  refine WP.exit ?_
  have H:=H.out
  exact jn (x1452,decide (x1452 < (a0.length:Int))) H
 refine WP.skip<|WP.seq<|WP.block<|WP.seq<|rg 2 0<|mv0 rfl rfl<|as0 rfl rfl<|.fin<|WP.seq<|rg 6 0<|mv0 rfl rfl<|mv0 rfl rfl<|mv0 rfl rfl<|gr H fun g1454 H=>?_
 have h1455:x1452.toNat < a0.length:=idx_lt g1454
 refine Dv.ixw rfl trivial rfl (mem_at 0 rfl) rfl Tryz.underlying208 Tryz.underlying264 c264 g1454.1 g1454.2<|Dv.ldws (j:=x1452.toNat) (f:=0) rfl trivial rfl (mem_at 0 rfl) h1455 Tryz.underlying264 rfl c264 (Nat.le_of_ble_eq_true rfl)<|el H fun t1456 h1457 H=>Dv.callfx (ret:=vB t1456) (X:=X1_) (F:=[own EKey.K p0_.1 a0]++F) rfl trivial rfl rfl ⟨_,_,h1457,rfl,rfl⟩ (perm_to (L:=[own EKey.K p0_.1 a0,X1_]) (F:=F) [1,0] rfl rfl rfl)<|.fin<|cd H rfl (fun _ H=>?_) (fun _ H=>?_)
 rotate_left
 ·
  exact WP.skip<|rg 2 0<|bn0 rfl rfl rfl run_add<|mv0 rfl rfl<|.fin<|bk j1459 (w64 (x1452 + 1)) H
 refine WP.seq<|rg 2 0<|mv0 rfl rfl<|as0 rfl rfl<|.fin ?_
 have H:=H.outr
 cases H.out; exact rt i2 rfl () 2 [0,1] 0 (.cons (res_tmp rfl) .nil)
theorem slices_DeleteFunc_Key_xo.c {k:Nat} {a0:List EKey} {a1:(EKey→Option Bool)} {X1_:As} {p0_:OV} {r:(List EKey)} (h:slices_DeleteFunc_Key_xo.f k a0 a1 = some r):Tr Tryz.prog 219 [eq p0_.1,fx_edu_Key_bool X1_ a1] [own EKey.K p0_.1 a0,X1_] (γ:=OV) (fun _=>True) (fun g=>eq g.1) (fun g=>[X1_,own EKey.K g.1 r]):=by
 unfold slices_DeleteFunc_Key_xo.f at h
 refine tb Tryz.func219 Tryz.ntmps219 h fun R0 F H=>?_
 refine WP.seq<|rg 1 0<|as0 rfl rfl<|.fin<|WP.seq<|rg 4 0<|mv0 rfl rfl<|mv0 rfl rfl<|el H fun t1461 h1462 H=>cll 2 [0,1] cal272 (slices_IndexFunc_Key_xw.c h1462 (p0_:=p0_) (X1_:=X1_)) ?_
 refine as0 rfl rfl<|.fin<|WP.seq<|WP.seq<|rg 2 0<|mv0 rfl rfl<|bn0 rfl rfl rfl run_eq<|.fin<|cd H rfl (fun _ H=>?_) (fun _ H=>?_)
 ·
  refine WP.seq<|rg 2 0<|mv0 rfl rfl<|as0 rfl rfl<|.fin ?_
  obtain rfl:=Gets.out H
  exact rt i2 rfl p0_ 2 [1,0] 0 (.cons (res_tmp rfl) .nil)
 refine WP.skip<|WP.seqn H id (fun p1464:Int×Int×Bool×(List EKey)=>[(0,eq p0_.1),(5,vI p1464.1)]) (fun p1464:Int×Int×Bool×(List EKey)=>[own EKey.K p0_.1 p1464.2.2.2,X1_]++F) (fun p1464 H=>?_) (fun H=>?_)
 ·
  refine WP.seq<|rg 4 8<|mv0 rfl rfl<|mv0 rfl rfl<|gr H fun g1465 H=>vg (st_own_form 0 rfl (List.length_pos_iff.1 (Nat.lt_of_le_of_lt (Nat.zero_le _) g1465.2))) fun g1466 h1467=>?_
  refine Dv.slkm (o':=g1466.2.1 + p1464.1.toNat * EKey.K.sz) (m':=p1464.2.2.2.length - p1464.1.toNat) (c':=g1466.2.2 - p1464.1.toNat) rfl trivial ((show opv _ _ = some (eq p0_.1) from rfl).trans (congrArg (fun z=>some (eq z)) h1467.1)) Tryz.underlying208 Tryz.underlying264 c264 (bdE_some rfl g1465.1) bdE_none (Nat.le_of_lt g1465.2) h1467.2 (.inl (Nat.lt_of_lt_of_le g1465.2 h1467.2)) rfl rfl rfl<|Dv.clrw (jj:=0) (⟨0,(⟨#[]⟩:ByteArray),(⟨#[]⟩:ByteArray),(⟨#[]⟩:ByteArray),false⟩:EKey) rfl trivial rfl Tryz.underlying208 z264 rfl rfl (fun u hu=>List.all_eq_true.1 (show (Value.cells _).toList.all (fun u=>u.oneCell') = true by kernel_rfl) u hu) h1467.1 rfl g1465.2 rfl nofun<|.fin<|WP.seq<|rg 4 4<|mv0 rfl rfl<|mv0 rfl rfl<|gr H fun g1468 H=>Dv.slo (jj:=0) rfl trivial rfl rfl Tryz.underlying208 Tryz.underlying264 c264 bdE_none (bdE_some rfl g1468.1) (.inl rfl) g1468.2.1 g1468.2.2 nofun (fun v1469=>?_)
  refine as0 rfl rfl<|.fin ?_
  obtain rfl:=Gets.out H
  exact rt i2 rfl v1469 2 [1,0] 0 (.cons (res_tmp rfl) .nil)
 refine WP.seq<|rg 3 0<|mv0 rfl rfl<|bn0 rfl rfl rfl run_add<|as0 rfl rfl<|.fin<|WP.block<|wg (sg 2 [0,1] 0) fun _ _=>?_
 refine lp (fun j_ (p1483:Int×Int×(List EKey))=>slices_DeleteFunc_Key_xo.l0 k a1 j_ p1483.1 p1483.2.1 p1483.2.2) (t1461,w64 (t1461 + 1),a0) H (fun p1483=>[(0,eq p0_.1),(1,fx_edu_Key_bool X1_ a1),(5,vI p1483.1),(6,vI p1483.2.1)]) (fun p1483=>[own EKey.K p0_.1 p1483.2.2,X1_]++F) ?_
 rintro j_ ⟨x1470,x1471,x1472⟩ H
 rcases j_ with _ | j1482
 ·
  exact (Gets.no H).elim
 try dsimp only at H
 rw [slices_DeleteFunc_Key_xo.l0] at H
 refine WP.seq<|WP.seq<|rg 4 0<|mv0 rfl rfl<|mv0 rfl rfl<|Dv.lenw rfl trivial rfl (mem_at 0 rfl) Tryz.underlying208<|bn0 rfl rfl rfl run_lt<|.fin<|cd H rfl (fun _ H=>?_) (fun _ H=>?_)
 rotate_left
 ·
  refine WP.exit ?_
  have H:=H.out
  exact jn (x1470,x1471,decide (x1471 < (x1472.length:Int)),x1472) H
 refine WP.skip<|WP.seq<|WP.block<|WP.seq<|rg 6 48<|mv0 rfl rfl<|mv0 rfl rfl<|gr H fun g1474 H=>?_
 have h1475:x1471.toNat < x1472.length:=idx_lt g1474
 refine Dv.ixw rfl trivial rfl (mem_at 0 rfl) rfl Tryz.underlying208 Tryz.underlying264 c264 g1474.1 g1474.2<|Dv.ldws (j:=x1471.toNat) (f:=0) rfl trivial rfl (mem_at 0 rfl) h1475 Tryz.underlying264 rfl c264 (Nat.le_of_ble_eq_true rfl)<|al rfl trivial zc264 nofun fun b1476=>sx 0 rfl trivial rfl rfl cA sz264 rfl rfl rfl nofun ?_
 refine .fin<|WP.seq<|rg 4 0<|mv0 rfl rfl<|lds 0 rfl trivial rfl sg264 rfl rfl<|el H fun t1477 h1478 H=>Dv.callfx (ret:=vB t1477) (X:=X1_) (F:=[blk b1476 264 (EKey.enc (x1472.getD x1471.toNat default)),own EKey.K p0_.1 x1472]++F) rfl trivial rfl rfl ⟨_,_,h1478,rfl,rfl⟩ (perm_to (L:=[blk b1476 264 (EKey.enc (x1472.getD x1471.toNat default)),own EKey.K p0_.1 x1472,X1_]) (F:=F) [2,0,1] rfl rfl rfl)<|un0 rfl rfl (run_not _)<|.fin<|cd H rfl (fun _ H=>?_) (fun _ H=>?_)
 rotate_left
 ·
  refine WP.skip<|rg 3 0<|mv0 rfl rfl<|bn0 rfl rfl rfl run_add<|as0 rfl rfl<|.fin<|ng (sg 3 [0,1,2] 1) fun _ _=>?_
  exact bk j1482 (x1470,w64 (x1471 + 1),x1472) H
 refine WP.seq<|rg 5 16<|mv0 rfl rfl<|mv0 rfl rfl<|lds 0 rfl trivial rfl sg264 rfl rfl<|gr H fun g1480 H=>?_
 have h1481:x1470.toNat < x1472.length:=idx_lt g1480
 refine Dv.ixw rfl trivial rfl (mem_at 1 rfl) rfl Tryz.underlying208 Tryz.underlying264 c264 g1480.1 g1480.2<|Dv.stw (j:=x1470.toNat) (f:=0) (jj:=1) (x1472.getD x1471.toNat default) rfl trivial rfl rfl (cells_agg (EKey.K.one _)) Tryz.underlying264 c264 rfl rfl h1481 (Nat.le_of_ble_eq_true rfl) rfl nofun<|.fin<|rg 3 0<|mv0 rfl rfl<|bn0 rfl rfl rfl run_add<|as0 rfl rfl<|.fin<|rg 3 0<|mv0 rfl rfl<|bn0 rfl rfl rfl run_add<|as0 rfl rfl<|.fin<|ng (sg 3 [0,1,2] 1) fun _ _=>?_
 exact bk j1482 (w64 (x1470 + 1),w64 (x1471 + 1),x1472.set x1470.toNat (x1472.getD x1471.toNat default)) H
theorem queue_Queue_drop_1.c {a0:EKey} {c0:EKey} {r:Bool} (h:queue_Queue_drop_1.f a0 c0 = some r):Pt Tryz.prog 220 [agg (EKey.enc a0),rp [vI c0.fKind,vS c0.fRoom,vS c0.fUser,vS c0.fThread,vB c0.fPrivate]] (vB r):=by
 unfold queue_Queue_drop_1.f at h
 refine pb Tryz.func220 Tryz.ntmps220 h fun R0 F H=>?_
 refine WP.seq<|rg 2 1<|Dv.box rfl trivial rfl cA nofun fun b1484=>as0 rfl rfl<|.fin<|WP.seq<|rg 4 0<|lds 0 rfl trivial rfl sg264 rfl rfl<|ldsR rfl trivial rfl sg264 rfl<|Dv.eqs [.int .i64 a0.fKind,.string a0.fRoom,.string a0.fUser,.string a0.fThread,.bool a0.fPrivate] [.int .i64 c0.fKind,.string c0.fRoom,.string c0.fUser,.string c0.fThread,.bool c0.fPrivate] rfl trivial rfl rfl rfl rfl eg264 (fun _=>equal_of 2 (by decide) (fun _=>eqt264 a0 c0))<|as0 rfl rfl<|.fin ?_
 cases H.out; exact r1 i2 rfl (.cons (res_tmp rfl) .nil)
theorem queue_Queue_drop.c {k:Nat} {a0:SQue} {a1:EKey} {p0_:OV} {r:SQue} (h:queue_Queue_drop.f k a0 a1 = some r):Tr Tryz.prog 145 [eq p0_.1,agg (EKey.enc a1)] [SQue.O p0_ a0] (γ:=Unit) (fun _=>True) (fun g=>tup []) (fun g=>[SQue.O p0_ r]):=by
 unfold queue_Queue_drop.f at h
 refine tb Tryz.func145 Tryz.ntmps145 h fun R0 F H=>?_
 refine WP.seq<|rg 1 1<|Dv.box rfl trivial rfl cA nofun fun b1485=>.fin<|WP.seq<|wg (SQue.opn 1 rfl) fun g1486 h1487=>?_
 refine dg Tryz.checked.mixed 6 32<|mv0 rfl rfl<|Dv.nilpp h1487 rfl trivial rfl<|fp h1487 rfl trivial rfl fa211_2<|ld 0 rfl trivial rfl sc209 rfl rfl<|lds 3 rfl trivial rfl sg264 rfl rfl<|Dv.mdlq (jj:=2) rfl trivial rfl rfl rfl (EKey.kq a1) Tryz.underlying209 kok264 (fun _=>pend_bits (by kernel_rfl))<|.fin<|rg 10 576<|mv0 rfl rfl<|mv0 rfl rfl<|Dv.nilpp h1487 rfl trivial rfl<|fp h1487 rfl trivial rfl fa211_1<|ld 0 rfl trivial rfl sc208 rfl rfl<|Dv.gh (gh_frzb (E':=[(0,eq p0_.1),(1,agg (EKey.enc a1)),(3,rp [vI a1.fKind,vS a1.fRoom,vS a1.fUser,vS a1.fThread,vB a1.fPrivate]),(9,eq p0_.1),(13,eq g1486.2.1.1)]) (l':=[blk g1486.1 211 [vI a0.fmost,eq g1486.2.1.1,eq g1486.2.2.1,vI a0.flost],own EKey.K g1486.2.1.1 a0.fkeys,mp EKey.kv (fun x:Edu=>agg (Edu.enc x)) g1486.2.2.1 (mdel a0.fat a1)]++F) 3 rfl (cve_cons rfl cv_id (cve_cons rfl cv_id (cve_cons rfl cv_eq (cve_cons rfl cv_id (cve_cons rfl cv_id cve_nil))))) (all2_app (.cons cva_id (.cons cva_id (.cons cva_id .nil))) fun _=>cva_id)) (fun _ _=>?_)
 refine Dv.mkx (Q:=fqQ_edu_Key_bool (fun a0_=>queue_Queue_drop_1.f a0_ a1)) (L:=[]) cal220 (by rintro _ _ ⟨a0_,r_,h_,rfl,rfl⟩; exact (queue_Queue_drop_1.c h_).tr) rfl trivial rfl rfl<|el H fun t1488 h1489 H=>cx 3 [1,0,2] cal219 (Tr.unpko (A:=[own EKey.K g1486.2.1.1 a0.fkeys]) (L:=[]) (B:=fun g1490:OV=>[own EKey.K g1490.1 t1488]) (slices_DeleteFunc_Key_xo.c h1489 (p0_:=g1486.2.1) (X1_:=(pk [])))) nofun fun g1490 _=>?_
 refine Dv.nilpp h1487 rfl trivial rfl<|fp h1487 rfl trivial rfl fa211_1<|sx 1 rfl trivial rfl rfl (cells_one one_ov) sz208 rfl rfl rfl nofun ?_
 refine .fin<|ng (SQue.shut (p:=p0_) (m:=(⟨a0.fmost,t1488,mdel a0.fat a1,a0.flost⟩:SQue)) (g1486.1,g1490,g1486.2.2) h1487 (pm 3 [1,0,2])) fun _ _=>?_
 obtain rfl:=Gets.out H
 exact re rfl () 1 [0] 0 .nil
theorem queue_Queue_Put.c {k:Nat} {a0:SQue} {a1:Edu} {p0_:OV} {r:Edu×Bool×Int×SQue} (h:queue_Queue_Put.f k a0 a1 = some r):Tr Tryz.prog 84 [eq p0_.1,agg (Edu.enc a1)] [SQue.O p0_ a0] (γ:=Unit) (fun _=>True) (fun g=>tup [agg (Edu.enc r.1),vB r.2.1,vI r.2.2.1]) (fun g=>[SQue.O p0_ r.2.2.2]):=by
 unfold queue_Queue_Put.f at h
 refine tb Tryz.func84 Tryz.ntmps84 h fun R0 F H=>?_
 refine WP.seq<|rg 4 3<|Dv.box rfl trivial rfl cA nofun fun b1491=>al rfl trivial zc80 nofun fun b1492=>as0 rfl rfl<|as0 rfl rfl<|.fin<|WP.seq<|WP.seq<|rg 3 0<|lds 1 rfl trivial rfl sg80 rfl rfl<|el H fun t1493 h1494 H=>cl rfl cal142 rfl (edu_May.c h1494)<|un0 rfl rfl (run_not _)<|.fin<|cd H rfl (fun _ H=>?_) (fun _ H=>?_)
 ·
  refine WP.seq<|rg 4 2<|Dv.bld (qs:=[vI 0,vS (⟨#[]⟩:ByteArray),vS (⟨#[]⟩:ByteArray),vS (⟨#[]⟩:ByteArray),vS (⟨#[]⟩:ByteArray),vB false,vB false,vI 0,vI 0,vI 0,vI 0]) (css:=[]) rfl trivial Tryz.underlying80 pl80 z80 rfl trivial rfl rfl<|sx 0 rfl trivial rfl rfl cA sz80 rfl rfl rfl nofun ?_
  refine as0 rfl rfl<|as0 rfl rfl<|.fin ?_
  cases H.out; exact rt i2 rfl () 3 [0,1,2] 2 (.cons (res_cells rfl Tryz.underlying80 rfl c80 (mem_at 0 rfl) rfl) (.cons (res_tmp rfl) (.cons (res_tmp rfl) .nil)))
 refine WP.skip<|WP.seq<|rg 4 12<|lds 1 rfl trivial rfl sg80 rfl rfl<|el H fun t1496 h1497 H=>cl rfl cal143 rfl (edu_Of.c h1497)<|al rfl trivial zc264 nofun fun b1498=>sx 0 rfl trivial rfl rfl cA sz264 rfl rfl rfl nofun ?_
 refine .fin<|WP.seq<|wg (SQue.opn 3 rfl) fun g1499 h1500=>?_
 refine dg Tryz.checked.mixed 12 1536<|mv0 rfl rfl<|Dv.nilpp h1500 rfl trivial rfl<|fp h1500 rfl trivial rfl fa211_2<|ld 0 rfl trivial rfl sc209 rfl rfl<|lds 3 rfl trivial rfl sg264 rfl rfl<|Dv.mlkq (⟨0,(⟨#[]⟩:ByteArray),(⟨#[]⟩:ByteArray),(⟨#[]⟩:ByteArray),(⟨#[]⟩:ByteArray),false,false,0,0,0,0⟩:Edu) rfl trivial rfl (mem_at 2 rfl) rfl (EKey.kq t1496) Tryz.underlying209 kok264 z80 (fun _=>⟨_,rfl,Cs.eqz rfl⟩)<|mv0 rfl rfl<|ex0 rfl trivial rfl rfl<|ex0 rfl trivial rfl rfl<|al rfl trivial zc80 (fun _=>(pend_in (fun _=>trivial) (pend_in (fun _=>trivial) (pend_in (fun _=>trivial) (pend_in (fun _=>(mem_at 3 rfl)) (pend_in (fun _=>(mem_at 4 rfl)) (pend_in (fun _=>(mem_at 1 rfl)) (pend_in (fun _=>trivial) (pend_in (fun _=>trivial) (pend_in (fun _=>trivial) pend_nil)))))))))) fun b1501=>sx 0 rfl trivial rfl rfl cA sz80 rfl rfl rfl (fun _=>(pend_in (fun _=>trivial) (pend_by (by kernel_rfl) (pend_by (by kernel_rfl) (pend_by (by kernel_rfl) (pend_by (by kernel_rfl) (pend_by (by kernel_rfl) (pend_by (by kernel_rfl) (pend_by (by kernel_rfl) (pend_by (by kernel_rfl) pend_nil)))))))))) ?_
 refine as0 rfl rfl<|.fin<|WP.seq<|WP.seq<|rg 7 0<|mv0 rfl rfl<|mv0 rfl rfl ?_
 rcases bem ((mget a0.fat t1496).isSome) with c1502 | c1502
 ·
  have H:=H.cf c1502
  refine Dv.gh (gh_sh 25 c1502 rfl) (fun _ _=>?_)
  refine Dv.gh (gh_sh 9 c1502 rfl) (fun _ _=>?_)
  refine Dv.gh (gh_sh 26 c1502 rfl) (fun _ _=>?_)
  refine Dv.gh (gh_sh 27 c1502 rfl) (fun _ _=>?_)
  refine sk rfl rfl<|sk rfl rfl<|sk rfl rfl<|sk rfl rfl<|pf0 rfl rfl rfl<|.fin<|WP.cond rfl nofun (fun _=>?_)
  refine WP.skip<|WP.seq<|rg 3 4<|mv0 rfl rfl<|lds 4 rfl trivial rfl sg264 rfl rfl<|vg (SQue.shut (p:=p0_) (m:=a0) (g1499.1,g1499.2.1,g1499.2.2) h1500 (pm 7 [1,2,3,0,4,5,6])) fun _ _=>?_
  refine el H fun t1523 h1524 H=>cx 5 [0,1,2,3,4] cal145 (queue_Queue_drop.c h1524 (p0_:=p0_)) nofun fun _ _=>?_
  refine .fin<|WP.seq<|wg (SQue.opn 0 rfl) fun g1525 h1526=>?_
  refine dg Tryz.checked.mixed 11 1152<|mv0 rfl rfl<|mv0 rfl rfl<|Dv.nilpp h1526 rfl trivial rfl<|fp h1526 rfl trivial rfl fa211_1<|ld 0 rfl trivial rfl sc208 rfl rfl<|lds 4 rfl trivial rfl sg264 rfl rfl<|Dv.lit EKey.K ([t1496]:List EKey) (css:=[EKey.enc t1496]) rfl trivial Tryz.underlying208 Tryz.underlying264 c264 z264 rfl (by decide) (by decide) rfl ⟨(cells_agg (EKey.K.one _)),trivial⟩ rfl rfl rfl<|gr H fun g1527 H=>Dv.appx (Kd:=EKey.K) (jj:=1) (ys:=([t1496]:List EKey)) (fun v1528:OV=>[blk g1525.1 211 [vI t1523.fmost,eq g1525.2.1.1,eq g1525.2.2.1,vI t1523.flost],own EKey.K v1528.1 (t1523.fkeys++([t1496]:List EKey)),mp EKey.kv (fun x:Edu=>agg (Edu.enc x)) g1525.2.2.1 t1523.fat,blk b1501 80 (Edu.enc ((mget a0.fat t1496).getD (⟨0,(⟨#[]⟩:ByteArray),(⟨#[]⟩:ByteArray),(⟨#[]⟩:ByteArray),(⟨#[]⟩:ByteArray),false,false,0,0,0,0⟩:Edu))),blk b1498 264 (EKey.enc t1496),blk b1492 80 [vI 0,vS (⟨#[]⟩:ByteArray),vS (⟨#[]⟩:ByteArray),vS (⟨#[]⟩:ByteArray),vS (⟨#[]⟩:ByteArray),vB false,vB false,vI 0,vI 0,vI 0,vI 0],blk b1491 80 (Edu.enc a1)]++F) rfl trivial rfl rfl rfl src_sl Tryz.underlying208 (.inr ⟨_,Tryz.underlying208⟩) inf264 rfl (by decide) g1527 rfl (fun _=>(pend_by (by kernel_rfl) (pend_by (by kernel_rfl) (pend_by (by kernel_rfl) (pend_by (by kernel_rfl) (pend_by (by kernel_rfl) (pend_by (by kernel_rfl) (pend_in (fun _=>trivial) pend_nil)))))))) (fun v1528=>?_)
  refine Dv.nilpp h1526 rfl trivial rfl<|fp h1526 rfl trivial rfl fa211_1<|sx 0 rfl trivial rfl rfl (cells_one one_ov) sz208 rfl rfl rfl pB ?_
  refine .fin<|WP.seq<|dg Tryz.checked.mixed 7 64<|mv0 rfl rfl<|Dv.nilpp h1526 rfl trivial rfl<|fp h1526 rfl trivial rfl fa211_2<|ld 0 rfl trivial rfl sc209 rfl rfl<|lds 4 rfl trivial rfl sg264 rfl rfl<|lds 6 rfl trivial rfl sg80 rfl rfl<|Dv.mupq (jj:=2) a1 rfl trivial rfl rfl rfl (EKey.kq t1496) rfl Tryz.underlying209 kok264 (fun _=>pend_bits (by kernel_rfl))<|.fin<|WP.seq<|WP.seq<|dg Tryz.checked.mixed 10 0<|mv0 rfl rfl<|Dv.nilpp h1526 rfl trivial rfl<|fp h1526 rfl trivial rfl fa211_1<|ld 0 rfl trivial rfl sc208 rfl rfl<|Dv.lenw rfl trivial rfl (mem_at 1 rfl) Tryz.underlying208<|mv0 rfl rfl<|Dv.nilpp h1526 rfl trivial rfl<|fp h1526 rfl trivial rfl fa211_0<|ld 0 rfl trivial rfl sc3 rfl rfl<|bn0 rfl rfl rfl run_le<|.fin<|cd H rfl (fun _ H=>?_) (fun _ H=>?_)
  ·
   refine WP.seq<|rg 4 2<|Dv.bld (qs:=[vI 0,vS (⟨#[]⟩:ByteArray),vS (⟨#[]⟩:ByteArray),vS (⟨#[]⟩:ByteArray),vS (⟨#[]⟩:ByteArray),vB false,vB false,vI 0,vI 0,vI 0,vI 0]) (css:=[]) rfl trivial Tryz.underlying80 pl80 z80 rfl trivial rfl rfl<|sx 5 rfl trivial rfl rfl cA sz80 rfl rfl rfl nofun ?_
   refine as0 rfl rfl<|as0 rfl rfl<|.fin<|wg (SQue.shut (p:=p0_) (m:=(⟨t1523.fmost,t1523.fkeys++([t1496]:List EKey),mput t1523.fat t1496 a1,t1523.flost⟩:SQue)) (g1525.1,v1528,g1525.2.2) h1526 (pm 7 [0,1,2,3,4,5,6])) fun _ _=>?_
   cases H.out; exact rt i2 rfl () 5 [1,2,3,4,0] 4 (.cons (res_cells rfl Tryz.underlying80 rfl c80 (mem_at 3 rfl) rfl) (.cons (res_tmp rfl) (.cons (res_tmp rfl) .nil)))
  refine WP.skip<|WP.seq<|dg Tryz.checked.mixed 13 6144<|mv0 rfl rfl<|Dv.nilpp h1526 rfl trivial rfl<|fp h1526 rfl trivial rfl fa211_2<|ld 0 rfl trivial rfl sc209 rfl rfl<|mv0 rfl rfl<|Dv.nilpp h1526 rfl trivial rfl<|fp h1526 rfl trivial rfl fa211_1<|ld 0 rfl trivial rfl sc208 rfl rfl<|gr H fun g1530 H=>?_
  have h1531:(0:Int).toNat < (t1523.fkeys++([t1496]:List EKey)).length:=idx_lt g1530
  refine Dv.ixw rfl trivial rfl (mem_at 1 rfl) rfl Tryz.underlying208 Tryz.underlying264 c264 g1530.1 g1530.2<|Dv.ldws (j:=((0:Int).toNat)) (f:=0) rfl trivial rfl (mem_at 1 rfl) h1531 Tryz.underlying264 rfl c264 (Nat.le_of_ble_eq_true rfl)<|Dv.mlvq (⟨0,(⟨#[]⟩:ByteArray),(⟨#[]⟩:ByteArray),(⟨#[]⟩:ByteArray),(⟨#[]⟩:ByteArray),false,false,0,0,0,0⟩:Edu) rfl trivial rfl (mem_at 2 rfl) rfl (EKey.kq ((t1523.fkeys++([t1496]:List EKey)).getD ((0:Int).toNat) default)) Tryz.underlying209 kok264 z80 (fun _=>⟨_,rfl,Cs.eqz rfl⟩)<|al rfl trivial zc80 (fun _=>(pend_in (fun _=>(mem_at 3 rfl)) (pend_in (fun _=>(mem_at 2 rfl)) (pend_in (fun _=>(mem_at 2 rfl)) (pend_in (fun _=>(mem_at 1 rfl)) (pend_in (fun _=>trivial) (pend_in (fun _=>trivial) (pend_in (fun _=>trivial) (pend_in (fun _=>(mem_at 1 rfl)) (pend_in (fun _=>trivial) (pend_in (fun _=>trivial) (pend_in (fun _=>trivial) pend_nil)))))))))))) fun b1532=>sx 0 rfl trivial rfl rfl cA sz80 rfl rfl rfl pB ?_
  refine .fin<|WP.seq<|rg 8 128<|mv0 rfl rfl<|mv0 rfl rfl<|Dv.nilpp h1526 rfl trivial rfl<|fp h1526 rfl trivial rfl fa211_1<|ld 1 rfl trivial rfl sc208 rfl rfl<|gr H fun g1533 H=>?_
  have h1534:(0:Int).toNat < (t1523.fkeys++([t1496]:List EKey)).length:=idx_lt g1533
  refine Dv.ixw rfl trivial rfl (mem_at 2 rfl) rfl Tryz.underlying208 Tryz.underlying264 c264 g1533.1 g1533.2<|Dv.ldws (j:=((0:Int).toNat)) (f:=0) rfl trivial rfl (mem_at 2 rfl) h1534 Tryz.underlying264 rfl c264 (Nat.le_of_ble_eq_true rfl)<|vg (SQue.shut (p:=p0_) (m:=(⟨t1523.fmost,t1523.fkeys++([t1496]:List EKey),mput t1523.fat t1496 a1,t1523.flost⟩:SQue)) (g1525.1,v1528,g1525.2.2) h1526 (pm 8 [1,2,3,0,4,5,6,7])) fun _ _=>?_
  refine el H fun t1535 h1536 H=>cx 6 [0,1,2,3,4,5] cal145 (queue_Queue_drop.c h1536 (p0_:=p0_)) nofun fun _ _=>?_
  refine .fin<|WP.seq<|rg 8 128<|mv0 rfl rfl<|Dv.nilA SQue.nn rfl trivial rfl (mem_at 0 rfl)<|vg (SQue.opn 0 rfl) fun g1537 h1538=>?_
  refine fp h1538 rfl trivial rfl fa211_3<|ld 0 rfl trivial rfl sc3 rfl rfl<|bn0 rfl rfl rfl run_add<|Dv.nilpp h1538 rfl trivial rfl<|fp h1538 rfl trivial rfl fa211_3<|sx 0 rfl trivial rfl rfl cE sz3 rfl rfl rfl nofun ?_
  refine .fin<|WP.seq<|rg 4 2<|lds 3 rfl trivial rfl sg80 rfl rfl<|sx 6 rfl trivial rfl rfl cA sz80 rfl rfl rfl nofun ?_
  refine as0 rfl rfl<|as0 rfl rfl<|.fin<|wg (SQue.shut (p:=p0_) (m:=(⟨t1535.fmost,t1535.fkeys,t1535.fat,w64 (t1535.flost + 1)⟩:SQue)) (g1537.1,g1537.2.1,g1537.2.2) h1538 (pm 8 [0,1,2,3,4,5,6,7])) fun _ _=>?_
  cases H.out; exact rt i2 rfl () 6 [1,2,3,4,5,0] 5 (.cons (res_cells rfl Tryz.underlying80 rfl c80 (mem_at 4 rfl) rfl) (.cons (res_tmp rfl) (.cons (res_tmp rfl) .nil)))
 have H:=H.ct c1502
 refine Dv.gh (gh_sh 25 c1502 rfl) (fun _ _=>?_)
 refine Dv.gh (gh_sh 9 c1502 rfl) (fun _ _=>?_)
 refine Dv.gh (gh_sh 26 c1502 rfl) (fun _ _=>?_)
 refine Dv.gh (gh_sh 27 c1502 rfl) (fun _ _=>?_)
 refine lds 6 rfl (gg rfl) rfl sg80 rfl rfl<|lds 0 rfl (gg rfl) rfl sg80 rfl rfl<|el H fun t1503 h1504 H=>Dv.call rfl (gg rfl) cal144 rfl (edu_Later.c h1504)<|ung rfl rfl rfl (run_not _)<|pt0 rfl rfl rfl<|.fin<|cd H rfl (fun _ H=>?_) (fun _ H=>?_)
 ·
  refine WP.seq<|rg 4 2<|Dv.bld (qs:=[vI 0,vS (⟨#[]⟩:ByteArray),vS (⟨#[]⟩:ByteArray),vS (⟨#[]⟩:ByteArray),vS (⟨#[]⟩:ByteArray),vB false,vB false,vI 0,vI 0,vI 0,vI 0]) (css:=[]) rfl trivial Tryz.underlying80 pl80 z80 rfl trivial rfl rfl<|sx 5 rfl trivial rfl rfl cA sz80 rfl rfl rfl nofun ?_
  refine as0 rfl rfl<|as0 rfl rfl<|.fin<|wg (SQue.shut (p:=p0_) (m:=a0) (g1499.1,g1499.2.1,g1499.2.2) h1500 (pm 7 [1,2,3,0,4,5,6])) fun _ _=>?_
  cases H.out; exact rt i2 rfl () 5 [1,2,3,4,0] 4 (.cons (res_cells rfl Tryz.underlying80 rfl c80 (mem_at 3 rfl) rfl) (.cons (res_tmp rfl) (.cons (res_tmp rfl) .nil)))
 refine WP.skip<|WP.seq<|rg 3 4<|mv0 rfl rfl<|lds 4 rfl trivial rfl sg264 rfl rfl<|vg (SQue.shut (p:=p0_) (m:=a0) (g1499.1,g1499.2.1,g1499.2.2) h1500 (pm 7 [1,2,3,0,4,5,6])) fun _ _=>?_
 refine el H fun t1506 h1507 H=>cx 5 [0,1,2,3,4] cal145 (queue_Queue_drop.c h1507 (p0_:=p0_)) nofun fun _ _=>?_
 refine .fin<|WP.seq<|wg (SQue.opn 0 rfl) fun g1508 h1509=>?_
 refine dg Tryz.checked.mixed 11 1152<|mv0 rfl rfl<|mv0 rfl rfl<|Dv.nilpp h1509 rfl trivial rfl<|fp h1509 rfl trivial rfl fa211_1<|ld 0 rfl trivial rfl sc208 rfl rfl<|lds 4 rfl trivial rfl sg264 rfl rfl<|Dv.lit EKey.K ([t1496]:List EKey) (css:=[EKey.enc t1496]) rfl trivial Tryz.underlying208 Tryz.underlying264 c264 z264 rfl (by decide) (by decide) rfl ⟨(cells_agg (EKey.K.one _)),trivial⟩ rfl rfl rfl<|gr H fun g1510 H=>Dv.appx (Kd:=EKey.K) (jj:=1) (ys:=([t1496]:List EKey)) (fun v1511:OV=>[blk g1508.1 211 [vI t1506.fmost,eq g1508.2.1.1,eq g1508.2.2.1,vI t1506.flost],own EKey.K v1511.1 (t1506.fkeys++([t1496]:List EKey)),mp EKey.kv (fun x:Edu=>agg (Edu.enc x)) g1508.2.2.1 t1506.fat,blk b1501 80 (Edu.enc ((mget a0.fat t1496).getD (⟨0,(⟨#[]⟩:ByteArray),(⟨#[]⟩:ByteArray),(⟨#[]⟩:ByteArray),(⟨#[]⟩:ByteArray),false,false,0,0,0,0⟩:Edu))),blk b1498 264 (EKey.enc t1496),blk b1492 80 [vI 0,vS (⟨#[]⟩:ByteArray),vS (⟨#[]⟩:ByteArray),vS (⟨#[]⟩:ByteArray),vS (⟨#[]⟩:ByteArray),vB false,vB false,vI 0,vI 0,vI 0,vI 0],blk b1491 80 (Edu.enc a1)]++F) rfl trivial rfl rfl rfl src_sl Tryz.underlying208 (.inr ⟨_,Tryz.underlying208⟩) inf264 rfl (by decide) g1510 rfl (fun _=>(pend_by (by kernel_rfl) (pend_by (by kernel_rfl) (pend_by (by kernel_rfl) (pend_by (by kernel_rfl) (pend_by (by kernel_rfl) (pend_by (by kernel_rfl) (pend_in (fun _=>trivial) pend_nil)))))))) (fun v1511=>?_)
 refine Dv.nilpp h1509 rfl trivial rfl<|fp h1509 rfl trivial rfl fa211_1<|sx 0 rfl trivial rfl rfl (cells_one one_ov) sz208 rfl rfl rfl pB ?_
 refine .fin<|WP.seq<|dg Tryz.checked.mixed 7 64<|mv0 rfl rfl<|Dv.nilpp h1509 rfl trivial rfl<|fp h1509 rfl trivial rfl fa211_2<|ld 0 rfl trivial rfl sc209 rfl rfl<|lds 4 rfl trivial rfl sg264 rfl rfl<|lds 6 rfl trivial rfl sg80 rfl rfl<|Dv.mupq (jj:=2) a1 rfl trivial rfl rfl rfl (EKey.kq t1496) rfl Tryz.underlying209 kok264 (fun _=>pend_bits (by kernel_rfl))<|.fin<|WP.seq<|WP.seq<|dg Tryz.checked.mixed 10 0<|mv0 rfl rfl<|Dv.nilpp h1509 rfl trivial rfl<|fp h1509 rfl trivial rfl fa211_1<|ld 0 rfl trivial rfl sc208 rfl rfl<|Dv.lenw rfl trivial rfl (mem_at 1 rfl) Tryz.underlying208<|mv0 rfl rfl<|Dv.nilpp h1509 rfl trivial rfl<|fp h1509 rfl trivial rfl fa211_0<|ld 0 rfl trivial rfl sc3 rfl rfl<|bn0 rfl rfl rfl run_le<|.fin<|cd H rfl (fun _ H=>?_) (fun _ H=>?_)
 ·
  refine WP.seq<|rg 4 2<|Dv.bld (qs:=[vI 0,vS (⟨#[]⟩:ByteArray),vS (⟨#[]⟩:ByteArray),vS (⟨#[]⟩:ByteArray),vS (⟨#[]⟩:ByteArray),vB false,vB false,vI 0,vI 0,vI 0,vI 0]) (css:=[]) rfl trivial Tryz.underlying80 pl80 z80 rfl trivial rfl rfl<|sx 5 rfl trivial rfl rfl cA sz80 rfl rfl rfl nofun ?_
  refine as0 rfl rfl<|as0 rfl rfl<|.fin<|wg (SQue.shut (p:=p0_) (m:=(⟨t1506.fmost,t1506.fkeys++([t1496]:List EKey),mput t1506.fat t1496 a1,t1506.flost⟩:SQue)) (g1508.1,v1511,g1508.2.2) h1509 (pm 7 [0,1,2,3,4,5,6])) fun _ _=>?_
  cases H.out; exact rt i2 rfl () 5 [1,2,3,4,0] 4 (.cons (res_cells rfl Tryz.underlying80 rfl c80 (mem_at 3 rfl) rfl) (.cons (res_tmp rfl) (.cons (res_tmp rfl) .nil)))
 refine WP.skip<|WP.seq<|dg Tryz.checked.mixed 13 6144<|mv0 rfl rfl<|Dv.nilpp h1509 rfl trivial rfl<|fp h1509 rfl trivial rfl fa211_2<|ld 0 rfl trivial rfl sc209 rfl rfl<|mv0 rfl rfl<|Dv.nilpp h1509 rfl trivial rfl<|fp h1509 rfl trivial rfl fa211_1<|ld 0 rfl trivial rfl sc208 rfl rfl<|gr H fun g1513 H=>?_
 have h1514:(0:Int).toNat < (t1506.fkeys++([t1496]:List EKey)).length:=idx_lt g1513
 refine Dv.ixw rfl trivial rfl (mem_at 1 rfl) rfl Tryz.underlying208 Tryz.underlying264 c264 g1513.1 g1513.2<|Dv.ldws (j:=((0:Int).toNat)) (f:=0) rfl trivial rfl (mem_at 1 rfl) h1514 Tryz.underlying264 rfl c264 (Nat.le_of_ble_eq_true rfl)<|Dv.mlvq (⟨0,(⟨#[]⟩:ByteArray),(⟨#[]⟩:ByteArray),(⟨#[]⟩:ByteArray),(⟨#[]⟩:ByteArray),false,false,0,0,0,0⟩:Edu) rfl trivial rfl (mem_at 2 rfl) rfl (EKey.kq ((t1506.fkeys++([t1496]:List EKey)).getD ((0:Int).toNat) default)) Tryz.underlying209 kok264 z80 (fun _=>⟨_,rfl,Cs.eqz rfl⟩)<|al rfl trivial zc80 (fun _=>(pend_in (fun _=>(mem_at 3 rfl)) (pend_in (fun _=>(mem_at 2 rfl)) (pend_in (fun _=>(mem_at 2 rfl)) (pend_in (fun _=>(mem_at 1 rfl)) (pend_in (fun _=>trivial) (pend_in (fun _=>trivial) (pend_in (fun _=>trivial) (pend_in (fun _=>(mem_at 1 rfl)) (pend_in (fun _=>trivial) (pend_in (fun _=>trivial) (pend_in (fun _=>trivial) pend_nil)))))))))))) fun b1515=>sx 0 rfl trivial rfl rfl cA sz80 rfl rfl rfl pB ?_
 refine .fin<|WP.seq<|rg 8 128<|mv0 rfl rfl<|mv0 rfl rfl<|Dv.nilpp h1509 rfl trivial rfl<|fp h1509 rfl trivial rfl fa211_1<|ld 1 rfl trivial rfl sc208 rfl rfl<|gr H fun g1516 H=>?_
 have h1517:(0:Int).toNat < (t1506.fkeys++([t1496]:List EKey)).length:=idx_lt g1516
 refine Dv.ixw rfl trivial rfl (mem_at 2 rfl) rfl Tryz.underlying208 Tryz.underlying264 c264 g1516.1 g1516.2<|Dv.ldws (j:=((0:Int).toNat)) (f:=0) rfl trivial rfl (mem_at 2 rfl) h1517 Tryz.underlying264 rfl c264 (Nat.le_of_ble_eq_true rfl)<|vg (SQue.shut (p:=p0_) (m:=(⟨t1506.fmost,t1506.fkeys++([t1496]:List EKey),mput t1506.fat t1496 a1,t1506.flost⟩:SQue)) (g1508.1,v1511,g1508.2.2) h1509 (pm 8 [1,2,3,0,4,5,6,7])) fun _ _=>?_
 refine el H fun t1518 h1519 H=>cx 6 [0,1,2,3,4,5] cal145 (queue_Queue_drop.c h1519 (p0_:=p0_)) nofun fun _ _=>?_
 refine .fin<|WP.seq<|rg 8 128<|mv0 rfl rfl<|Dv.nilA SQue.nn rfl trivial rfl (mem_at 0 rfl)<|vg (SQue.opn 0 rfl) fun g1520 h1521=>?_
 refine fp h1521 rfl trivial rfl fa211_3<|ld 0 rfl trivial rfl sc3 rfl rfl<|bn0 rfl rfl rfl run_add<|Dv.nilpp h1521 rfl trivial rfl<|fp h1521 rfl trivial rfl fa211_3<|sx 0 rfl trivial rfl rfl cE sz3 rfl rfl rfl nofun ?_
 refine .fin<|WP.seq<|rg 4 2<|lds 3 rfl trivial rfl sg80 rfl rfl<|sx 6 rfl trivial rfl rfl cA sz80 rfl rfl rfl nofun ?_
 refine as0 rfl rfl<|as0 rfl rfl<|.fin<|wg (SQue.shut (p:=p0_) (m:=(⟨t1518.fmost,t1518.fkeys,t1518.fat,w64 (t1518.flost + 1)⟩:SQue)) (g1520.1,g1520.2.1,g1520.2.2) h1521 (pm 8 [0,1,2,3,4,5,6,7])) fun _ _=>?_
 cases H.out; exact rt i2 rfl () 6 [1,2,3,4,5,0] 5 (.cons (res_cells rfl Tryz.underlying80 rfl c80 (mem_at 4 rfl) rfl) (.cons (res_tmp rfl) (.cons (res_tmp rfl) .nil)))
end Go.Proofs.YtelcbdmigiacpaaGreat
