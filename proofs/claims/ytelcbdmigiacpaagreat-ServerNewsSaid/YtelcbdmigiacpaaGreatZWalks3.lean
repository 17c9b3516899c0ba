import Derived.Test.YtelcbdmigiacpaaGreatZWalks2
set_option linter.all false
set_option maxRecDepth 10000
set_option maxHeartbeats 20000000
namespace Go.Proofs.YtelcbdmigiacpaaGreat
open Go Go.Sp
theorem server_Server_local.c {k:Nat} {a0:SSelTicStaAllComSen} {a1:Edu} {p0_:OV} {r:Int×SSelTicStaAllComSen} (h:server_Server_local.f k a0 a1 = some r):Tr Tryz.prog 49 [eq p0_.1,agg (Edu.enc a1)] [lax,SSelTicStaAllComSen.O p0_ a0] (γ:=Unit) (fun _=>True) (fun g=>vI r.1) (fun g=>[lax,SSelTicStaAllComSen.O p0_ r.2]):=by
 unfold server_Server_local.f at h
 refine tb Tryz.func49 Tryz.ntmps49 h fun R0 F H=>?_
 refine WP.seq<|rg 2 1<|Dv.box rfl trivial rfl cA nofun fun b1539=>as0 rfl rfl<|.fin<|WP.seq<|WP.seq<|rg 4 4<|mv0 rfl rfl<|lds 0 rfl trivial rfl sg80 rfl rfl<|el H fun t1540 h1541 H=>cx 3 [2,0,1] cal79 (server_Server_refuses.c h1541 (p0_:=p0_)) nofun fun _ _=>?_
 refine as0 rfl rfl<|.fin<|WP.seq<|rg 2 0<|mv0 rfl rfl<|bn0 rfl rfl rfl run_ne<|.fin<|cd H rfl (fun _ H=>?_) (fun _ H=>?_)
 ·
  refine WP.seq<|rg 2 0<|mv0 rfl rfl<|as0 rfl rfl<|.fin ?_
  cases H.out; exact rt i2 rfl () 3 [1,2,0] 1 (.cons (res_tmp rfl) .nil)
 refine WP.skip<|WP.seq<|rg 4 10<|mv0 rfl rfl<|el H fun t1543 h1544 H=>cx 3 [0,1,2] cal9 (server_Server_Tick.c h1544 (p0_:=p0_)) nofun fun _ _=>?_
 refine fb rfl trivial rfl fa80_9<|sx 1 rfl trivial rfl rfl cE sz3 rfl rfl rfl nofun ?_
 refine .fin<|WP.seq<|rg 10 528<|mv0 rfl rfl<|Dv.nilA SSelTicStaAllComSen.nn rfl trivial rfl (mem_at 0 rfl)<|vg (SSelTicStaAllComSen.opn 0 rfl) fun g1545 h1546=>?_
 refine fp h1546 rfl trivial rfl fa102_2<|ld 0 rfl trivial rfl sc82 rfl rfl<|el H fun t1547 h1548 H=>cx 12 [2,0,1,3,4,5,6,7,8,9,10,11] cal80 (clock_Counter_Next.c h1548 (p0_:=g1545.2.2.1)) nofun fun _ _=>?_
 refine mv0 rfl rfl<|ex0 rfl trivial rfl rfl<|ex0 rfl trivial rfl rfl<|fb rfl trivial rfl fa80_10<|sx 10 rfl trivial rfl rfl cE sz3 rfl rfl rfl nofun ?_
 refine .fin<|WP.seq<|rg 3 4<|mv0 rfl rfl<|lds 10 rfl trivial rfl sg80 rfl rfl<|vg (SSelTicStaAllComSen.shut (p:=p0_) (m:=(⟨a0.fself,a0.ftick,t1547.2.2,a0.fall,a0.fcome,a0.fsenders⟩:SSelTicStaAllComSen)) (g1545.1,g1545.2.1,g1545.2.2.1,g1545.2.2.2.1,g1545.2.2.2.2.1,g1545.2.2.2.2.2.1,g1545.2.2.2.2.2.2.1,g1545.2.2.2.2.2.2.2.1,g1545.2.2.2.2.2.2.2.2.1,g1545.2.2.2.2.2.2.2.2.2) h1546 (pm 12 [1,2,0,3,4,5,6,7,8,9,10,11])) fun _ _=>?_
 refine el H fun t1549 h1550 H=>cx 3 [2,0,1] cal81 (server_Server_put.c h1550 (p0_:=p0_)) nofun fun _ _=>?_
 refine .fin<|WP.seqn H (fun q1588:(Int×Int×Bool×SSelTicStaAllComSen×(List ByteArray))×OV=>q1588.1) (fun q1588:(Int×Int×Bool×SSelTicStaAllComSen×(List ByteArray))×OV=>[]) (fun q1588:(Int×Int×Bool×SSelTicStaAllComSen×(List ByteArray))×OV=>[blk b1539 80 [vI a1.fKind,vS a1.fRoom,vS a1.fUser,vS a1.fEvent,vS a1.fThread,vB a1.fPrivate,vB a1.fOn,vI a1.fSpan,vI a1.fState,vI t1543,vI t1547.1],SSelTicStaAllComSen.O p0_ q1588.1.2.2.2.1,lax,own strK q1588.2.1 q1588.1.2.2.2.2]++F) (fun q1588 H=>?_) (fun H=>?_)
 ·
  obtain ⟨p1551,v1552⟩:=q1588
  refine WP.seq<|rg 1 0<|as0 rfl rfl<|.fin ?_
  cases H.out; exact rt i2 rfl () 4 [0,3,2,1] 2 (.cons (res_tmp rfl) .nil)
 refine WP.seq<|wg (SSelTicStaAllComSen.opn 1 rfl) fun g1553 h1554=>?_
 refine dgo Tryz.checked.mixed [0,1,2,3,4,5,6,7,8,9,12,10,11] [10]<|mv0 rfl rfl<|Dv.nilpp h1554 rfl trivial rfl<|fp h1554 rfl trivial rfl fa102_3<|fb rfl trivial rfl fa99_0<|ld 0 rfl trivial rfl sc33 rfl rfl<|mv0 rfl rfl<|Dv.nilpp h1554 rfl trivial rfl<|fp h1554 rfl trivial rfl fa102_0<|ld 0 rfl trivial rfl sc9 rfl rfl<|lds 11 rfl trivial rfl sg80 rfl rfl<|mv0 rfl rfl<|el H fun t1555 h1556 H=>Dv.callx (pre:=[VView.O g1553.2.2.2.1 t1549.2.fall.fView]) (F:=[blk g1553.1 102 [vS t1549.2.fself,eq g1553.2.1.1,eq g1553.2.2.1.1,eq g1553.2.2.2.1.1,eq g1553.2.2.2.2.1.1,eq g1553.2.2.2.2.2.1.1,eq g1553.2.2.2.2.2.2.1.1,eq g1553.2.2.2.2.2.2.2.1.1,eq g1553.2.2.2.2.2.2.2.2.1.1,eq g1553.2.2.2.2.2.2.2.2.2.1],Ctr.O g1553.2.1 t1549.2.ftick,Ctr.O g1553.2.2.1 t1549.2.fstamps,Mks.O g1553.2.2.2.2.1 t1549.2.fall.fMarks,TTab.O g1553.2.2.2.2.2.1 t1549.2.fall.fTyping,PTab.O g1553.2.2.2.2.2.2.1 t1549.2.fall.fPresence,DLog.O g1553.2.2.2.2.2.2.2.1 t1549.2.fall.fLog,SMosOf.O g1553.2.2.2.2.2.2.2.2.1 t1549.2.fcome,mpo Value.string SSnd.O g1553.2.2.2.2.2.2.2.2.2.1 t1549.2.fsenders,lax,blk b1539 80 [vI a1.fKind,vS a1.fRoom,vS a1.fUser,vS a1.fEvent,vS a1.fThread,vB a1.fPrivate,vB a1.fOn,vI a1.fSpan,vI a1.fState,vI t1543,vI t1547.1]]++F) (fun g1557:OV=>[VView.O g1553.2.2.2.1 t1549.2.fall.fView,own strK g1557.1 t1555,blk g1553.1 102 [vS t1549.2.fself,eq g1553.2.1.1,eq g1553.2.2.1.1,eq g1553.2.2.2.1.1,eq g1553.2.2.2.2.1.1,eq g1553.2.2.2.2.2.1.1,eq g1553.2.2.2.2.2.2.1.1,eq g1553.2.2.2.2.2.2.2.1.1,eq g1553.2.2.2.2.2.2.2.2.1.1,eq g1553.2.2.2.2.2.2.2.2.2.1],Ctr.O g1553.2.1 t1549.2.ftick,Ctr.O g1553.2.2.1 t1549.2.fstamps,Mks.O g1553.2.2.2.2.1 t1549.2.fall.fMarks,TTab.O g1553.2.2.2.2.2.1 t1549.2.fall.fTyping,PTab.O g1553.2.2.2.2.2.2.1 t1549.2.fall.fPresence,DLog.O g1553.2.2.2.2.2.2.2.1 t1549.2.fall.fLog,SMosOf.O g1553.2.2.2.2.2.2.2.2.1 t1549.2.fcome,mpo Value.string SSnd.O g1553.2.2.2.2.2.2.2.2.2.1 t1549.2.fsenders,lax,blk b1539 80 [vI a1.fKind,vS a1.fRoom,vS a1.fUser,vS a1.fEvent,vS a1.fThread,vB a1.fPrivate,vB a1.fOn,vI a1.fSpan,vI a1.fState,vI t1543,vI t1547.1]]++F) rfl trivial cal82 rfl (gate_Targets.c h1556 (p0_:=g1553.2.2.2.1)) (perm_to (L:=[blk g1553.1 102 [vS t1549.2.fself,eq g1553.2.1.1,eq g1553.2.2.1.1,eq g1553.2.2.2.1.1,eq g1553.2.2.2.2.1.1,eq g1553.2.2.2.2.2.1.1,eq g1553.2.2.2.2.2.2.1.1,eq g1553.2.2.2.2.2.2.2.1.1,eq g1553.2.2.2.2.2.2.2.2.1.1,eq g1553.2.2.2.2.2.2.2.2.2.1],Ctr.O g1553.2.1 t1549.2.ftick,Ctr.O g1553.2.2.1 t1549.2.fstamps,VView.O g1553.2.2.2.1 t1549.2.fall.fView,Mks.O g1553.2.2.2.2.1 t1549.2.fall.fMarks,TTab.O g1553.2.2.2.2.2.1 t1549.2.fall.fTyping,PTab.O g1553.2.2.2.2.2.2.1 t1549.2.fall.fPresence,DLog.O g1553.2.2.2.2.2.2.2.1 t1549.2.fall.fLog,SMosOf.O g1553.2.2.2.2.2.2.2.2.1 t1549.2.fcome,mpo Value.string SSnd.O g1553.2.2.2.2.2.2.2.2.2.1 t1549.2.fsenders,lax,blk b1539 80 [vI a1.fKind,vS a1.fRoom,vS a1.fUser,vS a1.fEvent,vS a1.fThread,vB a1.fPrivate,vB a1.fOn,vI a1.fSpan,vI a1.fState,vI t1543,vI t1547.1]]) (F:=F) [3,0,1,2,4,5,6,7,8,9,10,11] (by kernel_rfl) rfl rfl) rfl (fun _=>pendc (pend_in (fun _=>trivial) (pend_by (by kernel_rfl) (pend_by (by kernel_rfl) (pend_by (by kernel_rfl) (pend_by (by kernel_rfl) (pend_by (by kernel_rfl) (pend_by (by kernel_rfl) (pend_by (by kernel_rfl) (pend_by (by kernel_rfl) (pend_by (by kernel_rfl) (pend_by (by kernel_rfl) pend_nil)))))))))))) (fun g1557 _=>?_)
 refine Dv.lenw rfl trivial rfl (mem_at 1 rfl) Tryz.underlying23<|.fin<|WP.block<|wg (SSelTicStaAllComSen.shut (p:=p0_) (m:=t1549.2) (g1553.1,g1553.2.1,g1553.2.2.1,g1553.2.2.2.1,g1553.2.2.2.2.1,g1553.2.2.2.2.2.1,g1553.2.2.2.2.2.2.1,g1553.2.2.2.2.2.2.2.1,g1553.2.2.2.2.2.2.2.2.1,g1553.2.2.2.2.2.2.2.2.2) h1554 (pm 13 [2,3,4,0,5,6,7,8,9,10,1,11,12])) fun _ _=>?_
 refine wg (sg 4 [3,0,1,2] 0) fun _ _=>?_
 refine lp (fun j_ (p1587:Int×SSelTicStaAllComSen)=>server_Server_local.l0 k a1 t1543 t1547 t1555 j_ p1587.1 p1587.2) (0,t1549.2) H (fun p1587=>[(0,eq p0_.1),(3,eq (.pointer (some ⟨b1539,0,none⟩))),(39,eq g1557.1),(40,vI (t1555.length:Int)),(41,vI p1587.1)]) (fun p1587=>[blk b1539 80 [vI a1.fKind,vS a1.fRoom,vS a1.fUser,vS a1.fEvent,vS a1.fThread,vB a1.fPrivate,vB a1.fOn,vI a1.fSpan,vI a1.fState,vI t1543,vI t1547.1],SSelTicStaAllComSen.O p0_ p1587.2,own strK g1557.1 t1555,lax]++F) ?_
 rintro j_ ⟨x1558,x1559⟩ H
 rcases j_ with _ | j1586
 ·
  exact (Gets.no H).elim
 try dsimp only at H
 rw [server_Server_local.l0] at H
 refine WP.seq<|rg 1 0<|bn0 rfl rfl rfl run_lt<|.fin<|WP.seq<|cd H rfl (fun _ H=>?_) (fun _ H=>?_)
 rotate_left
 ·
  refine WP.exit ?_
  have H:=H.out
  refine ng (sg 4 [0,1,3,2] 0) fun _ _=>?_
  exact jn (((t1555.length:Int),x1558,decide (x1558 < (t1555.length:Int)),x1559,t1555),g1557) H
 refine WP.skip<|WP.seq<|WP.block<|WP.seq<|rg 3 0<|gr H fun g1561 H=>?_
 have h1562:x1558.toNat < t1555.length:=idx_lt g1561
 refine Dv.ixw rfl trivial rfl (mem_at 2 rfl) rfl Tryz.underlying23 Tryz.underlying9 c9 g1561.1 g1561.2<|Dv.ldw (j:=x1558.toNat) (f:=0) (p:=vS (t1555.getD x1558.toNat default)) rfl trivial rfl (mem_at 2 rfl) h1562 Tryz.underlying9 rfl rfl<|as0 rfl rfl<|.fin<|WP.seq<|WP.seq<|rg 7 0<|mv0 rfl rfl<|Dv.nilA SSelTicStaAllComSen.nn rfl trivial rfl (mem_at 1 rfl)<|vg (SSelTicStaAllComSen.opn 1 rfl) fun g1563 h1564=>?_
 refine fp h1564 rfl trivial rfl fa102_5<|ld 0 rfl trivial rfl sc100 rfl rfl<|mv0 rfl rfl<|vg (mpo_opn 9 rfl) fun z1565 h1566=>?_
 refine Dv.mlv nilP rfl trivial rfl (mem_at 0 rfl) rfl Tryz.underlying100 (keyOk_str Tryz.underlying9) z104 (fun _=>rfl)<|Dv.pm0 (pm_nil h1566 rfl) rfl trivial rfl rfl Tryz.underlying104<|.fin<|cd H rfl (fun _ H=>?_) (fun _ H=>?_)
 rotate_left
 ·
  refine WP.skip<|gr H fun g1580 H=>wg (mpo_foc h1566 rfl g1580 (pm 14 [1,0,2,3,4,5,6,7,8,9,10,11,12,13])) fun _ _=>?_
  refine wg (SSnd.opn 0 rfl) fun g1581 h1582=>?_
  refine dg Tryz.checked.mixed 11 1024<|mv0 rfl rfl<|Dv.nilpp h1564 rfl trivial rfl<|fp h1564 rfl trivial rfl fa102_5<|ld 6 rfl trivial rfl sc100 rfl rfl<|mv0 rfl rfl<|Dv.mlv nilP rfl trivial rfl (mem_at 5 rfl) rfl Tryz.underlying100 (keyOk_str Tryz.underlying9) z104 (fun _=>rfl)<|Dv.nilpp h1582 rfl trivial rfl<|fp h1582 rfl trivial rfl fa161_0<|ld 0 rfl trivial rfl sc158 rfl rfl<|lds 15 rfl trivial rfl sg80 rfl rfl<|el H fun t1583 h1584 H=>cx 18 [1,0,2,3,4,5,6,7,8,9,10,11,12,13,14,15,16,17] cal84 (queue_Queue_Put.c h1584 (p0_:=g1581.2.1)) pC fun _ _=>?_
  refine .fin<|rg 2 0<|bn0 rfl rfl rfl run_add<|mv0 rfl rfl<|.fin<|ng (SSnd.shut (p:=((mget (zipK x1559.fsenders z1565) (t1555.getD x1558.toNat default)).getD nilP)) (m:=(⟨t1583.2.2.2,((mget x1559.fsenders (t1555.getD x1558.toNat default)).getD default).fself,((mget x1559.fsenders (t1555.getD x1558.toNat default)).getD default).fto,((mget x1559.fsenders (t1555.getD x1558.toNat default)).getD default).fids,((mget x1559.fsenders (t1555.getD x1558.toNat default)).getD default).fair⟩:SSnd)) (g1581.1,g1581.2.1,g1581.2.2.1,g1581.2.2.2) h1582 (pm 18 [1,0,2,3,4,5,6,7,8,9,10,11,12,13,14,15,16,17])) fun _ _=>?_
  refine ng (mpo_unf h1566 rfl g1580 (pm 15 [0,1,2,3,4,5,6,7,8,9,10,11,12,13,14])) fun _ h1585=>?_
  refine ng (mpo_shut h1585 (zipK_put' rfl g1580) (pm 14 [1,0,2,3,4,5,6,7,8,9,10,11,12,13])) fun _ _=>?_
  refine ng (SSelTicStaAllComSen.shut (p:=p0_) (m:=(⟨x1559.fself,x1559.ftick,x1559.fstamps,x1559.fall,x1559.fcome,mput x1559.fsenders (t1555.getD x1558.toNat default) (⟨t1583.2.2.2,((mget x1559.fsenders (t1555.getD x1558.toNat default)).getD default).fself,((mget x1559.fsenders (t1555.getD x1558.toNat default)).getD default).fto,((mget x1559.fsenders (t1555.getD x1558.toNat default)).getD default).fids,((mget x1559.fsenders (t1555.getD x1558.toNat default)).getD default).fair⟩:SSnd)⟩:SSelTicStaAllComSen)) (g1563.1,g1563.2.1,g1563.2.2.1,g1563.2.2.2.1,g1563.2.2.2.2.1,g1563.2.2.2.2.2.1,g1563.2.2.2.2.2.2.1,g1563.2.2.2.2.2.2.2.1,g1563.2.2.2.2.2.2.2.2.1,g1563.2.2.2.2.2.2.2.2.2) h1564 (pm 13 [1,2,3,4,5,6,7,8,9,0,10,11,12])) fun _ _=>?_
  refine ng (sg 4 [1,0,2,3] 0) fun _ _=>?_
  exact bk j1586 (w64 (x1558 + 1),(⟨x1559.fself,x1559.ftick,x1559.fstamps,x1559.fall,x1559.fcome,mput x1559.fsenders (t1555.getD x1558.toNat default) (⟨t1583.2.2.2,((mget x1559.fsenders (t1555.getD x1558.toNat default)).getD default).fself,((mget x1559.fsenders (t1555.getD x1558.toNat default)).getD default).fto,((mget x1559.fsenders (t1555.getD x1558.toNat default)).getD default).fids,((mget x1559.fsenders (t1555.getD x1558.toNat default)).getD default).fair⟩:SSnd)⟩:SSelTicStaAllComSen)) H
 refine dg Tryz.checked.mixed 15 17408<|mv0 rfl rfl<|Dv.nilpp h1564 rfl trivial rfl<|fp h1564 rfl trivial rfl fa102_5<|ld 2 rfl trivial rfl sc100 rfl rfl<|mv0 rfl rfl<|mv0 rfl rfl<|Dv.nilpp h1564 rfl trivial rfl<|fp h1564 rfl trivial rfl fa102_0<|ld 2 rfl trivial rfl sc9 rfl rfl<|mv0 rfl rfl<|el H fun t1568 h1569 H=>Dv.callx (pre:=[]) (F:=[mp Value.string (fun p:OV=>eq p.1) g1563.2.2.2.2.2.2.2.2.2.1 (zipK x1559.fsenders z1565),thg SSnd.O x1559.fsenders z1565,blk g1563.1 102 [vS x1559.fself,eq g1563.2.1.1,eq g1563.2.2.1.1,eq g1563.2.2.2.1.1,eq g1563.2.2.2.2.1.1,eq g1563.2.2.2.2.2.1.1,eq g1563.2.2.2.2.2.2.1.1,eq g1563.2.2.2.2.2.2.2.1.1,eq g1563.2.2.2.2.2.2.2.2.1.1,eq g1563.2.2.2.2.2.2.2.2.2.1],Ctr.O g1563.2.1 x1559.ftick,Ctr.O g1563.2.2.1 x1559.fstamps,VView.O g1563.2.2.2.1 x1559.fall.fView,Mks.O g1563.2.2.2.2.1 x1559.fall.fMarks,TTab.O g1563.2.2.2.2.2.1 x1559.fall.fTyping,PTab.O g1563.2.2.2.2.2.2.1 x1559.fall.fPresence,DLog.O g1563.2.2.2.2.2.2.2.1 x1559.fall.fLog,SMosOf.O g1563.2.2.2.2.2.2.2.2.1 x1559.fcome,blk b1539 80 [vI a1.fKind,vS a1.fRoom,vS a1.fUser,vS a1.fEvent,vS a1.fThread,vB a1.fPrivate,vB a1.fOn,vI a1.fSpan,vI a1.fState,vI t1543,vI t1547.1],own strK g1557.1 t1555,lax]++F) (fun g1570:OV=>[optO SSnd.O g1570 t1568.1,mp Value.string (fun p:OV=>eq p.1) g1563.2.2.2.2.2.2.2.2.2.1 (zipK x1559.fsenders z1565),thg SSnd.O x1559.fsenders z1565,blk g1563.1 102 [vS x1559.fself,eq g1563.2.1.1,eq g1563.2.2.1.1,eq g1563.2.2.2.1.1,eq g1563.2.2.2.2.1.1,eq g1563.2.2.2.2.2.1.1,eq g1563.2.2.2.2.2.2.1.1,eq g1563.2.2.2.2.2.2.2.1.1,eq g1563.2.2.2.2.2.2.2.2.1.1,eq g1563.2.2.2.2.2.2.2.2.2.1],Ctr.O g1563.2.1 x1559.ftick,Ctr.O g1563.2.2.1 x1559.fstamps,VView.O g1563.2.2.2.1 x1559.fall.fView,Mks.O g1563.2.2.2.2.1 x1559.fall.fMarks,TTab.O g1563.2.2.2.2.2.1 x1559.fall.fTyping,PTab.O g1563.2.2.2.2.2.2.1 x1559.fall.fPresence,DLog.O g1563.2.2.2.2.2.2.2.1 x1559.fall.fLog,SMosOf.O g1563.2.2.2.2.2.2.2.2.1 x1559.fcome,blk b1539 80 [vI a1.fKind,vS a1.fRoom,vS a1.fUser,vS a1.fEvent,vS a1.fThread,vB a1.fPrivate,vB a1.fOn,vI a1.fSpan,vI a1.fState,vI t1543,vI t1547.1],own strK g1557.1 t1555,lax]++F) rfl trivial cal83 rfl (sender_New.c h1569) (perm_to (L:=[mp Value.string (fun p:OV=>eq p.1) g1563.2.2.2.2.2.2.2.2.2.1 (zipK x1559.fsenders z1565),thg SSnd.O x1559.fsenders z1565,blk g1563.1 102 [vS x1559.fself,eq g1563.2.1.1,eq g1563.2.2.1.1,eq g1563.2.2.2.1.1,eq g1563.2.2.2.2.1.1,eq g1563.2.2.2.2.2.1.1,eq g1563.2.2.2.2.2.2.1.1,eq g1563.2.2.2.2.2.2.2.1.1,eq g1563.2.2.2.2.2.2.2.2.1.1,eq g1563.2.2.2.2.2.2.2.2.2.1],Ctr.O g1563.2.1 x1559.ftick,Ctr.O g1563.2.2.1 x1559.fstamps,VView.O g1563.2.2.2.1 x1559.fall.fView,Mks.O g1563.2.2.2.2.1 x1559.fall.fMarks,TTab.O g1563.2.2.2.2.2.1 x1559.fall.fTyping,PTab.O g1563.2.2.2.2.2.2.1 x1559.fall.fPresence,DLog.O g1563.2.2.2.2.2.2.2.1 x1559.fall.fLog,SMosOf.O g1563.2.2.2.2.2.2.2.2.1 x1559.fcome,blk b1539 80 [vI a1.fKind,vS a1.fRoom,vS a1.fUser,vS a1.fEvent,vS a1.fThread,vB a1.fPrivate,vB a1.fOn,vI a1.fSpan,vI a1.fState,vI t1543,vI t1547.1],own strK g1557.1 t1555,lax]) (F:=F) [0,1,2,3,4,5,6,7,8,9,10,11,12,13] (by kernel_rfl) rfl rfl) rfl (fun _=>pendc (pend_by (by kernel_rfl) (pend_by (by kernel_rfl) (pend_by (by kernel_rfl) (pend_by (by kernel_rfl) (pend_by (by kernel_rfl) (pend_in (fun _=>trivial) (pend_in (fun _=>(mem_at 3 rfl)) (pend_in (fun _=>trivial) (pend_in (fun _=>trivial) (pend_in (fun _=>trivial) pend_nil))))))))))) (fun g1570 _=>?_)
 refine mv0 rfl rfl<|ex0 rfl trivial rfl rfl<|ex0 rfl trivial rfl rfl<|gr H fun g1571 H=>Dv.ga (fun _=>True) (fun _:Unit=>[SSnd.O g1570 (t1568.1.getD default),mp Value.string (fun p:OV=>eq p.1) g1563.2.2.2.2.2.2.2.2.2.1 (zipK x1559.fsenders z1565),thg SSnd.O x1559.fsenders z1565,blk g1563.1 102 [vS x1559.fself,eq g1563.2.1.1,eq g1563.2.2.1.1,eq g1563.2.2.2.1.1,eq g1563.2.2.2.2.1.1,eq g1563.2.2.2.2.2.1.1,eq g1563.2.2.2.2.2.2.1.1,eq g1563.2.2.2.2.2.2.2.1.1,eq g1563.2.2.2.2.2.2.2.2.1.1,eq g1563.2.2.2.2.2.2.2.2.2.1],Ctr.O g1563.2.1 x1559.ftick,Ctr.O g1563.2.2.1 x1559.fstamps,VView.O g1563.2.2.2.1 x1559.fall.fView,Mks.O g1563.2.2.2.2.1 x1559.fall.fMarks,TTab.O g1563.2.2.2.2.2.1 x1559.fall.fTyping,PTab.O g1563.2.2.2.2.2.2.1 x1559.fall.fPresence,DLog.O g1563.2.2.2.2.2.2.2.1 x1559.fall.fLog,SMosOf.O g1563.2.2.2.2.2.2.2.2.1 x1559.fcome,blk b1539 80 [vI a1.fKind,vS a1.fRoom,vS a1.fUser,vS a1.fEvent,vS a1.fThread,vB a1.fPrivate,vB a1.fOn,vI a1.fSpan,vI a1.fState,vI t1543,vI t1547.1],own strK g1557.1 t1555,lax]++F) (opt_some 0 rfl (isN g1571)) (fun _=>(pg_cons (fun _=>trivial) (pg_cons (fun _=>trivial) (pg_cons (fun _=>trivial) (pg_cons (fun _=>trivial) (pg_cons (fun _=>(mem_at 3 rfl)) (pg_cons (fun _=>trivial) (pg_cons (fun _=>trivial) (pg_cons (fun _=>trivial) (pg_cons (fun _=>trivial) (pg_cons (fun _=>(mem_at 3 rfl)) (pg_cons (fun _=>trivial) (pg_cons (fun _=>trivial) (pg_cons (fun _=>trivial) pg_nil)))))))))))))) (fun _ _=>?_)
 refine Dv.mup (vp:=fun p:OV=>eq p.1) (jj:=1) g1570 rfl trivial rfl rfl rfl rfl Tryz.underlying100 (keyOk_str Tryz.underlying9) (fun _=>(pend_in (fun _=>trivial) (pend_by (by kernel_rfl) (pend_by (by kernel_rfl) (pend_by (by kernel_rfl) (pend_by (by kernel_rfl) (pend_by (by kernel_rfl) (pend_by (by kernel_rfl) (pend_by (by kernel_rfl) (pend_by (by kernel_rfl) (pend_by (by kernel_rfl) (pend_by (by kernel_rfl) (pend_by (by kernel_rfl) (pend_by (by kernel_rfl) pend_nil))))))))))))))<|.fin<|wg (mpo_add SSnd.nn h1566 rfl (pm 15 [1,2,0,3,4,5,6,7,8,9,10,11,12,13,14])) fun _ _=>?_
 refine wg (mpo_opn 0 rfl) fun z1572 h1573=>?_
 refine gr H fun g1574 H=>wg (mpo_foc h1573 rfl g1574 (pm 14 [1,0,2,3,4,5,6,7,8,9,10,11,12,13])) fun _ _=>?_
 refine wg (SSnd.opn 0 rfl) fun g1575 h1576=>?_
 refine dg Tryz.checked.mixed 11 1024<|mv0 rfl rfl<|Dv.nilpp h1564 rfl trivial rfl<|fp h1564 rfl trivial rfl fa102_5<|ld 6 rfl trivial rfl sc100 rfl rfl<|mv0 rfl rfl<|Dv.mlv nilP rfl trivial rfl (mem_at 5 rfl) rfl Tryz.underlying100 (keyOk_str Tryz.underlying9) z104 (fun _=>rfl)<|Dv.nilpp h1576 rfl trivial rfl<|fp h1576 rfl trivial rfl fa161_0<|ld 0 rfl trivial rfl sc158 rfl rfl<|lds 15 rfl trivial rfl sg80 rfl rfl<|el H fun t1577 h1578 H=>cx 18 [1,0,2,3,4,5,6,7,8,9,10,11,12,13,14,15,16,17] cal84 (queue_Queue_Put.c h1578 (p0_:=g1575.2.1)) pC fun _ _=>?_
 refine .fin<|rg 2 0<|bn0 rfl rfl rfl run_add<|mv0 rfl rfl<|.fin<|ng (SSnd.shut (p:=((mget (zipK (mput x1559.fsenders (t1555.getD x1558.toNat default) (t1568.1.getD default)) z1572) (t1555.getD x1558.toNat default)).getD nilP)) (m:=(⟨t1577.2.2.2,((mget (mput x1559.fsenders (t1555.getD x1558.toNat default) (t1568.1.getD default)) (t1555.getD x1558.toNat default)).getD default).fself,((mget (mput x1559.fsenders (t1555.getD x1558.toNat default) (t1568.1.getD default)) (t1555.getD x1558.toNat default)).getD default).fto,((mget (mput x1559.fsenders (t1555.getD x1558.toNat default) (t1568.1.getD default)) (t1555.getD x1558.toNat default)).getD default).fids,((mget (mput x1559.fsenders (t1555.getD x1558.toNat default) (t1568.1.getD default)) (t1555.getD x1558.toNat default)).getD default).fair⟩:SSnd)) (g1575.1,g1575.2.1,g1575.2.2.1,g1575.2.2.2) h1576 (pm 18 [1,0,2,3,4,5,6,7,8,9,10,11,12,13,14,15,16,17])) fun _ _=>?_
 refine ng (mpo_unf h1573 rfl g1574 (pm 15 [0,1,2,3,4,5,6,7,8,9,10,11,12,13,14])) fun _ h1579=>?_
 refine ng (mpo_shut h1579 (zipK_put' rfl g1574) (pm 14 [1,0,2,3,4,5,6,7,8,9,10,11,12,13])) fun _ _=>?_
 refine ng (SSelTicStaAllComSen.shut (p:=p0_) (m:=(⟨x1559.fself,x1559.ftick,x1559.fstamps,x1559.fall,x1559.fcome,mput (mput x1559.fsenders (t1555.getD x1558.toNat default) (t1568.1.getD default)) (t1555.getD x1558.toNat default) (⟨t1577.2.2.2,((mget (mput x1559.fsenders (t1555.getD x1558.toNat default) (t1568.1.getD default)) (t1555.getD x1558.toNat default)).getD default).fself,((mget (mput x1559.fsenders (t1555.getD x1558.toNat default) (t1568.1.getD default)) (t1555.getD x1558.toNat default)).getD default).fto,((mget (mput x1559.fsenders (t1555.getD x1558.toNat default) (t1568.1.getD default)) (t1555.getD x1558.toNat default)).getD default).fids,((mget (mput x1559.fsenders (t1555.getD x1558.toNat default) (t1568.1.getD default)) (t1555.getD x1558.toNat default)).getD default).fair⟩:SSnd)⟩:SSelTicStaAllComSen)) (g1563.1,g1563.2.1,g1563.2.2.1,g1563.2.2.2.1,g1563.2.2.2.2.1,g1563.2.2.2.2.2.1,g1563.2.2.2.2.2.2.1,g1563.2.2.2.2.2.2.2.1,g1563.2.2.2.2.2.2.2.2.1,g1563.2.2.2.2.2.2.2.2.2) h1564 (pm 13 [1,2,3,4,5,6,7,8,9,0,10,11,12])) fun _ _=>?_
 refine ng (sg 4 [1,0,2,3] 0) fun _ _=>?_
 exact bk j1586 (w64 (x1558 + 1),(⟨x1559.fself,x1559.ftick,x1559.fstamps,x1559.fall,x1559.fcome,mput (mput x1559.fsenders (t1555.getD x1558.toNat default) (t1568.1.getD default)) (t1555.getD x1558.toNat default) (⟨t1577.2.2.2,((mget (mput x1559.fsenders (t1555.getD x1558.toNat default) (t1568.1.getD default)) (t1555.getD x1558.toNat default)).getD default).fself,((mget (mput x1559.fsenders (t1555.getD x1558.toNat default) (t1568.1.getD default)) (t1555.getD x1558.toNat default)).getD default).fto,((mget (mput x1559.fsenders (t1555.getD x1558.toNat default) (t1568.1.getD default)) (t1555.getD x1558.toNat default)).getD default).fids,((mget (mput x1559.fsenders (t1555.getD x1558.toNat default) (t1568.1.getD default)) (t1555.getD x1558.toNat default)).getD default).fair⟩:SSnd)⟩:SSelTicStaAllComSen)) H
theorem server_Server_Type.c {k:Nat} {a0:SSelTicStaAllComSen} {a1:ByteArray} {a2:ByteArray} {a3:Bool} {a4:Int} {p0_:OV} {r:Int×SSelTicStaAllComSen} (h:server_Server_Type.f k a0 a1 a2 a3 a4 = some r):Tr Tryz.prog 39 [eq p0_.1,vS a1,vS a2,vB a3,vI a4] [lax,SSelTicStaAllComSen.O p0_ a0] (γ:=Unit) (fun _=>True) (fun g=>vI r.1) (fun g=>[lax,SSelTicStaAllComSen.O p0_ r.2]):=by
 unfold server_Server_Type.f at h
 refine tb Tryz.func39 Tryz.ntmps39 h fun R0 F H=>?_
 refine WP.seq<|rg 1 0<|as0 rfl rfl<|.fin<|WP.seq<|rg 8 64<|mv0 rfl rfl<|mv0 rfl rfl<|mv0 rfl rfl<|mv0 rfl rfl<|mv0 rfl rfl<|Dv.bld (qs:=[vI 2,vS a2,vS a1,vS (⟨#[]⟩:ByteArray),vS (⟨#[]⟩:ByteArray),vB false,vB a3,vI a4,vI 0,vI 0,vI 0]) (css:=[[vI 2],[vS a2],[vS a1],[vB a3],[vI a4]]) rfl trivial Tryz.underlying80 pl80 z80 rfl ⟨(cells_one (one_eq rfl)),⟨(cells_one (one_eq rfl)),⟨(cells_one (one_eq rfl)),⟨(cells_one (one_eq rfl)),⟨(cells_one (one_eq rfl)),trivial⟩⟩⟩⟩⟩ rfl rfl<|el H fun t1589 h1590 H=>cx 2 [0,1] cal49 (server_Server_local.c h1590 (p0_:=p0_)) nofun fun _ _=>?_
 refine as0 rfl rfl<|.fin ?_
 cases H.out; exact rt i2 rfl () 2 [0,1] 0 (.cons (res_tmp rfl) .nil)
theorem slices_Clone_Edu.c {a0:List Edu} {r:List Edu} (h:slices_Clone_Edu.f a0 = some r):Tr Tryz.prog 179 [sl Edu.K a0] [] (γ:=OV) (fun _=>True) (fun g=>eq g.1) (fun g=>[own Edu.K g.1 r]):=by
 unfold slices_Clone_Edu.f at h
 obtain ⟨h0,h5⟩:=(Gets.of h).grd
 obtain rfl:=Gets.out h5
 clear h h5
 refine (Tr.body Tryz.func179 (c:=_) rfl Tryz.ntmps179 (Nat.le_of_ble_eq_true rfl) fun R0 F=>?_)
 refine WP.seq<|WP.reg [(0,false)] (by kernel_rfl)<|as0 rfl rfl<|.fin<|WP.seq<|WP.seq<|WP.reg [(0,false),(1,true)] (by kernel_rfl)<|mv0 rfl rfl<|Dv.snil rfl trivial rfl rfl Tryz.underlying40 nofun (fun b hb=>?_)
 refine .fin<|WP.cond rfl (fun c0=>?_) (fun c0=>?_)
 ·
  obtain rfl:=hb c0
  refine WP.seq<|WP.reg [(0,false)] (by kernel_rfl)<|as0 rfl rfl<|.fin<|wg (st_nil Edu.K none) fun _ _=>?_
  exact rt i2 rfl nilV 1 [0] 0 (.cons (res_tmp rfl) .nil)
 refine WP.skip<|WP.seq<|WP.reg [(0,true),(1,false),(2,true),(3,false)] (by kernel_rfl)<|Dv.lit0 Edu.K rfl trivial Tryz.underlying40 Tryz.underlying80 c80 z80 nofun (fun v1=>?_)
 refine mv0 rfl rfl<|Dv.appx (Kd:=Edu.K) (xs:=[]) (v:=v1.1) (jj:=0) (ys:=a0) (fun v2:OV=>[own Edu.K v2.1 a0]++F) rfl trivial rfl rfl rfl src_sl Tryz.underlying40 (.inr ⟨_,Tryz.underlying40⟩) inf80 rfl (by decide) (by simpa using h0) rfl nofun (fun v2=>?_)
 exact as0 rfl rfl<|.fin<|rt i2 rfl v2 1 [0] 0 (.cons (res_tmp rfl) .nil)
theorem slices_IndexFunc_Edu.c {k:Nat} {a0:List Edu} {a1:Edu→Option Bool} {r:Int} (h:slices_IndexFunc_Edu.f k a0 a1 = some r):Pt Tryz.prog 236 [sl Edu.K a0,fq_api_Edu_bool a1] (vI r):=by
 unfold slices_IndexFunc_Edu.f at h
 refine pb Tryz.func236 Tryz.ntmps236 h fun R0 F H=>?_
 refine WP.seq<|rg 1 0<|as0 rfl rfl<|.fin<|WP.seqr H id (fun p1591:Int×Bool=>[]) (fun p1591:Int×Bool=>F) (fun p1591 H=>?_) (fun H=>?_)
 ·
  refine WP.seq<|rg 1 0<|as0 rfl rfl<|.fin ?_
  cases H.out; exact r0 i2 rfl (.cons (res_tmp rfl) .nil)
 refine WP.seq<|rg 3 0<|mv0 rfl rfl<|Dv.lenl rfl trivial rfl Tryz.underlying40<|mv0 rfl rfl<|.fin<|WP.block<|wg (sg 0 [] 0) fun _ _=>?_
 refine lp (fun j_ (p1599:Int)=>slices_IndexFunc_Edu.l0 k a0 a1 j_ p1599) 0 H (fun p1599=>[(0,sl Edu.K a0),(1,fq_api_Edu_bool a1),(7,vI (a0.length:Int)),(8,vI p1599)]) (fun p1599=>F) ?_
 rintro j_ x1592 H
 rcases j_ with _ | j1598
 ·
  exact (Gets.no H).elim
 try dsimp only at H
 rw [slices_IndexFunc_Edu.l0] at H
 refine WP.seq<|rg 1 0<|bn0 rfl rfl rfl run_lt<|.fin<|WP.seq<|cd H rfl (fun _ H=>?_) (fun _ H=>?_)
 rotate_left
 ·
  refine WP.exit ?_
  have H:=H.out
  exact jn (x1592,decide (x1592 < (a0.length:Int))) H
 refine WP.skip<|WP.seq<|WP.block<|WP.seq<|rg 2 0<|mv0 rfl rfl<|as0 rfl rfl<|.fin<|WP.seq<|rg 6 0<|mv0 rfl rfl<|mv0 rfl rfl<|mv0 rfl rfl<|gr H fun g1594 H=>Dv.ixr rfl trivial rfl rfl Tryz.underlying40 Tryz.underlying80 c80 g1594.1 g1594.2<|ldsR rfl trivial rfl sg80 rfl<|el H fun t1595 h1596 H=>Dv.callq (ret:=vB t1595) rfl trivial rfl rfl ⟨_,_,h1596,rfl,rfl⟩<|.fin<|cd H rfl (fun _ H=>?_) (fun _ H=>?_)
 rotate_left
 ·
  exact WP.skip<|rg 2 0<|bn0 rfl rfl rfl run_add<|mv0 rfl rfl<|.fin<|bk j1598 (w64 (x1592 + 1)) H
 refine WP.seq<|rg 2 0<|mv0 rfl rfl<|as0 rfl rfl<|.fin ?_
 have H:=H.outr
 cases H.out; exact r0 i2 rfl (.cons (res_tmp rfl) .nil)
theorem slices_IndexFunc_Edu_x.c {k:Nat} {a0:List Edu} {a1:(Edu→Option Bool)} {X1_:As} {r:Int} (h:slices_IndexFunc_Edu_x.f k a0 a1 = some r):Tr Tryz.prog 236 [sl Edu.K a0,fx_api_Edu_bool X1_ a1] [X1_] (γ:=Unit) (fun _=>True) (fun g=>vI r) (fun g=>[X1_]):=by
 unfold slices_IndexFunc_Edu_x.f at h
 refine tb Tryz.func236 Tryz.ntmps236 h fun R0 F H=>?_
 refine WP.seq<|rg 1 0<|as0 rfl rfl<|.fin<|WP.seqr H id (fun p1600:Int×Bool=>[]) (fun p1600:Int×Bool=>[X1_]++F) (fun p1600 H=>?_) (fun H=>?_)
 ·
  refine WP.seq<|rg 1 0<|as0 rfl rfl<|.fin ?_
  cases H.out; exact rt i2 rfl () 1 [0] 0 (.cons (res_tmp rfl) .nil)
 refine WP.seq<|rg 3 0<|mv0 rfl rfl<|Dv.lenl rfl trivial rfl Tryz.underlying40<|mv0 rfl rfl<|.fin<|WP.block<|wg (sg 1 [0] 0) fun _ _=>?_
 refine lp (fun j_ (p1608:Int)=>slices_IndexFunc_Edu_x.l0 k a0 a1 j_ p1608) 0 H (fun p1608=>[(0,sl Edu.K a0),(1,fx_api_Edu_bool X1_ a1),(7,vI (a0.length:Int)),(8,vI p1608)]) (fun p1608=>[X1_]++F) ?_
 rintro j_ x1601 H
 rcases j_ with _ | j1607
 ·
  exact (Gets.no H).elim
 try dsimp only at H
 rw [slices_IndexFunc_Edu_x.l0] at H
 refine WP.seq<|rg 1 0<|bn0 rfl rfl rfl run_lt<|.fin<|WP.seq<|cd H rfl (fun _ H=>?_) (fun _ H=>?_)
 rotate_left
 ·
  refine WP.exit ?_
  have H:=H.out
  exact jn (x1601,decide (x1601 < (a0.length:Int))) H
 refine WP.skip<|WP.seq<|WP.block<|WP.seq<|rg 2 0<|mv0 rfl rfl<|as0 rfl rfl<|.fin<|WP.seq<|rg 6 0<|mv0 rfl rfl<|mv0 rfl rfl<|mv0 rfl rfl<|gr H fun g1603 H=>Dv.ixr rfl trivial rfl rfl Tryz.underlying40 Tryz.underlying80 c80 g1603.1 g1603.2<|ldsR rfl trivial rfl sg80 rfl<|el H fun t1604 h1605 H=>Dv.callfx (ret:=vB t1604) (X:=X1_) (F:=F) rfl trivial rfl rfl ⟨_,_,h1605,rfl,rfl⟩ (perm_to (L:=[X1_]) (F:=F) [0] rfl rfl rfl)<|.fin<|cd H rfl (fun _ H=>?_) (fun _ H=>?_)
 rotate_left
 ·
  exact WP.skip<|rg 2 0<|bn0 rfl rfl rfl run_add<|mv0 rfl rfl<|.fin<|bk j1607 (w64 (x1601 + 1)) H
 refine WP.seq<|rg 2 0<|mv0 rfl rfl<|as0 rfl rfl<|.fin ?_
 have H:=H.outr
 cases H.out; exact rt i2 rfl () 1 [0] 0 (.cons (res_tmp rfl) .nil)
theorem slices_IndexFunc_Edu_xw.c {k:Nat} {a0:List Edu} {a1:(Edu→Option Bool)} {X1_:As} {p0_:OV} {r:Int} (h:slices_IndexFunc_Edu_xw.f k a0 a1 = some r):Tr Tryz.prog 236 [eq p0_.1,fx_api_Edu_bool X1_ a1] [own Edu.K p0_.1 a0,X1_] (γ:=Unit) (fun _=>True) (fun g=>vI r) (fun g=>[own Edu.K p0_.1 a0,X1_]):=by
 unfold slices_IndexFunc_Edu_xw.f at h
 refine tb Tryz.func236 Tryz.ntmps236 h fun R0 F H=>?_
 refine WP.seq<|rg 1 0<|as0 rfl rfl<|.fin<|WP.seqr H id (fun p1609:Int×Bool=>[]) (fun p1609:Int×Bool=>[own Edu.K p0_.1 a0,X1_]++F) (fun p1609 H=>?_) (fun H=>?_)
 ·
  refine WP.seq<|rg 1 0<|as0 rfl rfl<|.fin ?_
  cases H.out; exact rt i2 rfl () 2 [0,1] 0 (.cons (res_tmp rfl) .nil)
 refine WP.seq<|rg 3 0<|mv0 rfl rfl<|Dv.lenw rfl trivial rfl (mem_at 0 rfl) Tryz.underlying40<|mv0 rfl rfl<|.fin<|WP.block<|wg (sg 2 [0,1] 0) fun _ _=>?_
 refine lp (fun j_ (p1618:Int)=>slices_IndexFunc_Edu_xw.l0 k a0 a1 j_ p1618) 0 H (fun p1618=>[(0,eq p0_.1),(1,fx_api_Edu_bool X1_ a1),(7,vI (a0.length:Int)),(8,vI p1618)]) (fun p1618=>[own Edu.K p0_.1 a0,X1_]++F) ?_
 rintro j_ x1610 H
 rcases j_ with _ | j1617
 ·
  exact (Gets.no H).elim
 try dsimp only at H
 rw [slices_IndexFunc_Edu_xw.l0] at H
 refine WP.seq<|rg 1 0<|bn0 rfl rfl rfl run_lt<|.fin<|WP.seq<|cd H rfl (fun _ H=>?_) (fun _ H=>?_)
 rotate_left
 ·
  refine WP.exit ?_
  have H:=H.out
  exact jn (x1610,decide (x1610 < (a0.length:Int))) H
 refine WP.skip<|WP.seq<|WP.block<|WP.seq<|rg 2 0<|mv0 rfl rfl<|as0 rfl rfl<|.fin<|WP.seq<|rg 6 0<|mv0 rfl rfl<|mv0 rfl rfl<|mv0 rfl rfl<|gr H fun g1612 H=>?_
 have h1613:x1610.toNat < a0.length:=idx_lt g1612
 refine Dv.ixw rfl trivial rfl (mem_at 0 rfl) rfl Tryz.underlying40 Tryz.underlying80 c80 g1612.1 g1612.2<|Dv.ldws (j:=x1610.toNat) (f:=0) rfl trivial rfl (mem_at 0 rfl) h1613 Tryz.underlying80 rfl c80 (Nat.le_of_ble_eq_true rfl)<|el H fun t1614 h1615 H=>Dv.callfx (ret:=vB t1614) (X:=X1_) (F:=[own Edu.K p0_.1 a0]++F) rfl trivial rfl rfl ⟨_,_,h1615,rfl,rfl⟩ (perm_to (L:=[own Edu.K p0_.1 a0,X1_]) (F:=F) [1,0] rfl rfl rfl)<|.fin<|cd H rfl (fun _ H=>?_) (fun _ H=>?_)
 rotate_left
 ·
  exact WP.skip<|rg 2 0<|bn0 rfl rfl rfl run_add<|mv0 rfl rfl<|.fin<|bk j1617 (w64 (x1610 + 1)) H
 refine WP.seq<|rg 2 0<|mv0 rfl rfl<|as0 rfl rfl<|.fin ?_
 have H:=H.outr
 cases H.out; exact rt i2 rfl () 2 [0,1] 0 (.cons (res_tmp rfl) .nil)
theorem slices_DeleteFunc_Edu_xo.c {k:Nat} {a0:List Edu} {a1:(Edu→Option Bool)} {X1_:As} {p0_:OV} {r:(List Edu)} (h:slices_DeleteFunc_Edu_xo.f k a0 a1 = some r):Tr Tryz.prog 182 [eq p0_.1,fx_api_Edu_bool X1_ a1] [own Edu.K p0_.1 a0,X1_] (γ:=OV) (fun _=>True) (fun g=>eq g.1) (fun g=>[X1_,own Edu.K g.1 r]):=by
 unfold slices_DeleteFunc_Edu_xo.f at h
 refine tb Tryz.func182 Tryz.ntmps182 h fun R0 F H=>?_
 refine WP.seq<|rg 1 0<|as0 rfl rfl<|.fin<|WP.seq<|rg 4 0<|mv0 rfl rfl<|mv0 rfl rfl<|el H fun t1619 h1620 H=>cll 2 [0,1] cal236 (slices_IndexFunc_Edu_xw.c h1620 (p0_:=p0_) (X1_:=X1_)) ?_
 refine as0 rfl rfl<|.fin<|WP.seq<|WP.seq<|rg 2 0<|mv0 rfl rfl<|bn0 rfl rfl rfl run_eq<|.fin<|cd H rfl (fun _ H=>?_) (fun _ H=>?_)
 ·
  refine WP.seq<|rg 2 0<|mv0 rfl rfl<|as0 rfl rfl<|.fin ?_
  obtain rfl:=Gets.out H
  exact rt i2 rfl p0_ 2 [1,0] 0 (.cons (res_tmp rfl) .nil)
 refine WP.skip<|WP.seqn H id (fun p1622:Int×Int×Bool×(List Edu)=>[(0,eq p0_.1),(5,vI p1622.1)]) (fun p1622:Int×Int×Bool×(List Edu)=>[own Edu.K p0_.1 p1622.2.2.2,X1_]++F) (fun p1622 H=>?_) (fun H=>?_)
 ·
  refine WP.seq<|rg 4 8<|mv0 rfl rfl<|mv0 rfl rfl<|gr H fun g1623 H=>vg (st_own_form 0 rfl (List.length_pos_iff.1 (Nat.lt_of_le_of_lt (Nat.zero_le _) g1623.2))) fun g1624 h1625=>?_
  refine Dv.slkm (o':=g1624.2.1 + p1622.1.toNat * Edu.K.sz) (m':=p1622.2.2.2.length - p1622.1.toNat) (c':=g1624.2.2 - p1622.1.toNat) rfl trivial ((show opv _ _ = some (eq p0_.1) from rfl).trans (congrArg (fun z=>some (eq z)) h1625.1)) Tryz.underlying40 Tryz.underlying80 c80 (bdE_some rfl g1623.1) bdE_none (Nat.le_of_lt g1623.2) h1625.2 (.inl (Nat.lt_of_lt_of_le g1623.2 h1625.2)) rfl rfl rfl<|Dv.clrw (jj:=0) (⟨0,(⟨#[]⟩:ByteArray),(⟨#[]⟩:ByteArray),(⟨#[]⟩:ByteArray),(⟨#[]⟩:ByteArray),false,false,0,0,0,0⟩:Edu) rfl trivial rfl Tryz.underlying40 z80 rfl rfl (fun u hu=>List.all_eq_true.1 (show (Value.cells _).toList.all (fun u=>u.oneCell') = true by kernel_rfl) u hu) h1625.1 rfl g1623.2 rfl nofun<|.fin<|WP.seq<|rg 4 4<|mv0 rfl rfl<|mv0 rfl rfl<|gr H fun g1626 H=>Dv.slo (jj:=0) rfl trivial rfl rfl Tryz.underlying40 Tryz.underlying80 c80 bdE_none (bdE_some rfl g1626.1) (.inl rfl) g1626.2.1 g1626.2.2 nofun (fun v1627=>?_)
  refine as0 rfl rfl<|.fin ?_
  obtain rfl:=Gets.out H
  exact rt i2 rfl v1627 2 [1,0] 0 (.cons (res_tmp rfl) .nil)
 refine WP.seq<|rg 3 0<|mv0 rfl rfl<|bn0 rfl rfl rfl run_add<|as0 rfl rfl<|.fin<|WP.block<|wg (sg 2 [0,1] 0) fun _ _=>?_
 refine lp (fun j_ (p1641:Int×Int×(List Edu))=>slices_DeleteFunc_Edu_xo.l0 k a1 j_ p1641.1 p1641.2.1 p1641.2.2) (t1619,w64 (t1619 + 1),a0) H (fun p1641=>[(0,eq p0_.1),(1,fx_api_Edu_bool X1_ a1),(5,vI p1641.1),(6,vI p1641.2.1)]) (fun p1641=>[own Edu.K p0_.1 p1641.2.2,X1_]++F) ?_
 rintro j_ ⟨x1628,x1629,x1630⟩ H
 rcases j_ with _ | j1640
 ·
  exact (Gets.no H).elim
 try dsimp only at H
 rw [slices_DeleteFunc_Edu_xo.l0] at H
 refine WP.seq<|WP.seq<|rg 4 0<|mv0 rfl rfl<|mv0 rfl rfl<|Dv.lenw rfl trivial rfl (mem_at 0 rfl) Tryz.underlying40<|bn0 rfl rfl rfl run_lt<|.fin<|cd H rfl (fun _ H=>?_) (fun _ H=>?_)
 rotate_left
 ·
  refine WP.exit ?_
  have H:=H.out
  exact jn (x1628,x1629,decide (x1629 < (x1630.length:Int)),x1630) H
 refine WP.skip<|WP.seq<|WP.block<|WP.seq<|rg 6 48<|mv0 rfl rfl<|mv0 rfl rfl<|gr H fun g1632 H=>?_
 have h1633:x1629.toNat < x1630.length:=idx_lt g1632
 refine Dv.ixw rfl trivial rfl (mem_at 0 rfl) rfl Tryz.underlying40 Tryz.underlying80 c80 g1632.1 g1632.2<|Dv.ldws (j:=x1629.toNat) (f:=0) rfl trivial rfl (mem_at 0 rfl) h1633 Tryz.underlying80 rfl c80 (Nat.le_of_ble_eq_true rfl)<|al rfl trivial zc80 nofun fun b1634=>sx 0 rfl trivial rfl rfl cA sz80 rfl rfl rfl nofun ?_
 refine .fin<|WP.seq<|rg 4 0<|mv0 rfl rfl<|lds 0 rfl trivial rfl sg80 rfl rfl<|el H fun t1635 h1636 H=>Dv.callfx (ret:=vB t1635) (X:=X1_) (F:=[blk b1634 80 (Edu.enc (x1630.getD x1629.toNat default)),own Edu.K p0_.1 x1630]++F) rfl trivial rfl rfl ⟨_,_,h1636,rfl,rfl⟩ (perm_to (L:=[blk b1634 80 (Edu.enc (x1630.getD x1629.toNat default)),own Edu.K p0_.1 x1630,X1_]) (F:=F) [2,0,1] rfl rfl rfl)<|un0 rfl rfl (run_not _)<|.fin<|cd H rfl (fun _ H=>?_) (fun _ H=>?_)
 rotate_left
 ·
  refine WP.skip<|rg 3 0<|mv0 rfl rfl<|bn0 rfl rfl rfl run_add<|as0 rfl rfl<|.fin<|ng (sg 3 [0,1,2] 1) fun _ _=>?_
  exact bk j1640 (x1628,w64 (x1629 + 1),x1630) H
 refine WP.seq<|rg 5 16<|mv0 rfl rfl<|mv0 rfl rfl<|lds 0 rfl trivial rfl sg80 rfl rfl<|gr H fun g1638 H=>?_
 have h1639:x1628.toNat < x1630.length:=idx_lt g1638
 refine Dv.ixw rfl trivial rfl (mem_at 1 rfl) rfl Tryz.underlying40 Tryz.underlying80 c80 g1638.1 g1638.2<|Dv.stw (j:=x1628.toNat) (f:=0) (jj:=1) (x1630.getD x1629.toNat default) rfl trivial rfl rfl (cells_agg (Edu.K.one _)) Tryz.underlying80 c80 rfl rfl h1639 (Nat.le_of_ble_eq_true rfl) rfl nofun<|.fin<|rg 3 0<|mv0 rfl rfl<|bn0 rfl rfl rfl run_add<|as0 rfl rfl<|.fin<|rg 3 0<|mv0 rfl rfl<|bn0 rfl rfl rfl run_add<|as0 rfl rfl<|.fin<|ng (sg 3 [0,1,2] 1) fun _ _=>?_
 exact bk j1640 (w64 (x1628 + 1),w64 (x1629 + 1),x1630.set x1628.toNat (x1630.getD x1629.toNat default)) H
theorem slices_Contains_string.c {k:Nat} {a0:List ByteArray} {a1:ByteArray} {r:Bool} (h:slices_Contains_string.f k a0 a1 = some r):Pt Tryz.prog 237 [sl strK a0,vS a1] (vB r):=by
 unfold slices_Contains_string.f at h
 refine pb Tryz.func237 Tryz.ntmps237 h fun R0 F H=>?_
 refine WP.seq<|rg 1 0<|as0 rfl rfl<|.fin<|WP.seq<|rg 5 0<|mv0 rfl rfl<|mv0 rfl rfl<|el H fun t1642 h1643 H=>cl rfl cal163 rfl (slices_Index_string.c h1643)<|bn0 rfl rfl rfl run_ge<|as0 rfl rfl<|.fin ?_
 cases H.out; exact r0 i2 rfl (.cons (res_tmp rfl) .nil)
theorem gate_Passes.c {k:Nat} {a0:VView} {a1:ByteArray} {a2:Edu} {p0_:OV} {r:Bool} (h:gate_Passes.f k a0 a1 a2 = some r):Tr Tryz.prog 184 [eq p0_.1,vS a1,agg (Edu.enc a2)] [VView.O p0_ a0] (γ:=Unit) (fun _=>True) (fun g=>vB r) (fun g=>[VView.O p0_ a0]):=by
 unfold gate_Passes.f at h
 refine tb Tryz.func184 Tryz.ntmps184 h fun R0 F H=>?_
 refine WP.seq<|rg 2 1<|Dv.box rfl trivial rfl cA nofun fun b1644=>as0 rfl rfl<|.fin<|WP.seq<|rg 6 4<|mv0 rfl rfl<|lds 0 rfl trivial rfl sg80 rfl rfl<|el H fun t1645 h1646 H=>cx 2 [1,0] cal139 (gate_reached.c h1646 (p0_:=p0_)) nofun fun g1647 _=>?_
 refine mv0 rfl rfl<|el H fun t1648 h1649 H=>cll (B:=[own strK g1647.1 t1645]) 3 [1,0,2] cal237 (Pt.lend _ (slices_Contains_string.c h1649) (.cons (lt_own (mem_at 0 rfl)) (.cons lt_id .nil)) flat_eq) ?_
 refine as0 rfl rfl<|.fin ?_
 cases H.out; exact rt i2 rfl () 3 [1,2,0] 2 (.cons (res_tmp rfl) .nil)
theorem gate_Choose_1.c {k:Nat} {a0:Edu} {cb0_:Nat} {cq0_:OV} {c0:VView} {c1:ByteArray} {r:Bool} (h:gate_Choose_1.f k a0 c0 c1 = some r):Tr Tryz.prog 183 [agg (Edu.enc a0),eq (.pointer (some ⟨cb0_,0,none⟩)),rp [vS c1]] [blk cb0_ 33 [eq cq0_.1],VView.O cq0_ c0] (γ:=Unit) (fun _=>True) (fun g=>vB r) (fun g=>[blk cb0_ 33 [eq cq0_.1],VView.O cq0_ c0]):=by
 unfold gate_Choose_1.f at h
 refine tb Tryz.func183 Tryz.ntmps183 h fun R0 F H=>?_
 refine WP.seq<|rg 2 1<|Dv.box rfl trivial rfl cA nofun fun b1650=>as0 rfl rfl<|.fin<|WP.seq<|rg 6 8<|ld 1 rfl trivial rfl sc33 rfl rfl<|ldR rfl trivial rfl sc9 rfl<|lds 0 rfl trivial rfl sg80 rfl rfl<|el H fun t1651 h1652 H=>cx 3 [2,0,1] cal184 (gate_Passes.c h1652 (p0_:=cq0_)) nofun fun _ _=>?_
 refine un0 rfl rfl (run_not _)<|as0 rfl rfl<|.fin ?_
 cases H.out; exact rt i2 rfl () 3 [1,2,0] 1 (.cons (res_tmp rfl) .nil)
theorem gate_Choose.c {k:Nat} {a0:VView} {a1:ByteArray} {a2:List Edu} {p0_:OV} {r:(List Edu)} (h:gate_Choose.f k a0 a1 a2 = some r):Tr Tryz.prog 106 [eq p0_.1,vS a1,sl Edu.K a2] [VView.O p0_ a0] (γ:=Unit) (fun _=>True) (fun g=>sl Edu.K r) (fun g=>[VView.O p0_ a0]):=by
 unfold gate_Choose.f at h
 refine tb Tryz.func106 Tryz.ntmps106 h fun R0 F H=>?_
 refine WP.seq<|rg 3 3<|Dv.box rfl trivial rfl (cells_one one_ov) nofun fun b1653=>Dv.box rfl trivial rfl cE nofun fun b1654=>as0 rfl rfl<|.fin<|WP.seq<|rg 5 10<|mv0 rfl rfl<|el H fun t1655 h1656 H=>cx 3 [0,1,2] cal179 (slices_Clone_Edu.c h1656) nofun fun g1657 _=>?_
 refine Dv.gh (gh_frzb (E':=[(0,eq p0_.1),(1,vS a1),(2,sl Edu.K a2),(3,eq (.pointer (some ⟨b1653,0,none⟩))),(4,rp [vS a1]),(6,eq (.slice none 0 0)),(8,eq g1657.1)]) (l':=[own Edu.K g1657.1 t1655,blk b1653 33 [eq p0_.1],VView.O p0_ a0]++F) 1 rfl (cve_cons rfl cv_id (cve_cons rfl cv_id (cve_cons rfl cv_id (cve_cons rfl cv_id (cve_cons rfl cv_eq (cve_cons rfl cv_id (cve_cons rfl cv_id cve_nil))))))) (all2_app (.cons cva_id (.cons cva_id (.cons cva_id .nil))) fun _=>cva_id)) (fun _ _=>?_)
 refine Dv.mkx (Q:=fqQ_api_Edu_bool (fun a0_=>gate_Choose_1.f k a0_ a0 a1)) (L:=[blk b1653 33 [eq p0_.1],VView.O p0_ a0]) cal183 (by rintro _ _ ⟨a0_,r_,h_,rfl,rfl⟩; exact gate_Choose_1.c h_ (cb0_:=b1653) (cq0_:=p0_)) rfl trivial rfl rfl<|el H fun t1658 h1659 H=>cx 3 [0,1,2] cal182 (Tr.unpko (A:=[own Edu.K g1657.1 t1655]) (L:=[blk b1653 33 [eq p0_.1],VView.O p0_ a0]) (B:=fun g1660:OV=>[own Edu.K g1660.1 t1658]) (slices_DeleteFunc_Edu_xo.c h1659 (p0_:=g1657) (X1_:=(pk [blk b1653 33 [eq p0_.1],VView.O p0_ a0])))) nofun fun g1660 _=>?_
 refine as0 rfl rfl<|.fin<|WP.gh (gh_frz (E':=[(6,sl Edu.K t1658)]) (l':=[blk b1653 33 [eq p0_.1],VView.O p0_ a0]++F) 2 rfl (cve_cons rfl cv_eq cve_nil) (all2_app (.cons cva_id (.cons cva_id .nil)) fun _=>cva_id)) (fun _ _=>?_)
 cases H.out; exact rt i2 rfl () 2 [0,1] 1 (.cons (res_tmp rfl) .nil)
theorem clock_Backoff.c {k:Nat} {a0:Int} {r:Int} (h:clock_Backoff.f k a0 = some r):Pt Tryz.prog 109 [vI a0] (vI r):=by
 unfold clock_Backoff.f at h
 refine pb Tryz.func109 Tryz.ntmps109 h fun R0 F H=>?_
 refine WP.seq<|rg 1 0<|as0 rfl rfl<|.fin<|WP.seq<|rg 1 0<|as0 rfl rfl<|.fin<|WP.seqn H id (fun p1661:Int×Int×Bool=>[(3,vI p1661.1)]) (fun p1661:Int×Int×Bool=>F) (fun p1661 H=>?_) (fun H=>?_)
 ·
  refine WP.seq<|rg 2 0<|mv0 rfl rfl<|as0 rfl rfl<|.fin ?_
  cases H.out; exact r0 i2 rfl (.cons (res_tmp rfl) .nil)
 refine WP.seq<|rg 4 0<|mv0 rfl rfl<|Dv.maxi rfl trivial rfl rfl<|Dv.mini rfl trivial rfl rfl<|mv0 rfl rfl<|.fin<|WP.block<|wg (sg 0 [] 0) fun _ _=>?_
 refine lp (fun j_ (p1666:Int×Int)=>clock_Backoff.l0 k a0 j_ p1666.1 p1666.2) (1,0) H (fun p1666=>[(3,vI p1666.1),(6,vI (min (max a0 0) 9)),(7,vI p1666.2)]) (fun p1666=>F) ?_
 rintro j_ ⟨x1662,x1663⟩ H
 rcases j_ with _ | j1665
 ·
  exact (Gets.no H).elim
 try dsimp only at H
 rw [clock_Backoff.l0] at H
 refine WP.seq<|rg 1 0<|bn0 rfl rfl rfl run_lt<|.fin<|WP.seq<|cd H rfl (fun _ H=>?_) (fun _ H=>?_)
 rotate_left
 ·
  refine WP.exit ?_
  have H:=H.out
  exact jn (x1662,x1663,decide (x1663 < (min (max a0 0) 9))) H
 exact WP.skip<|WP.seq<|WP.block<|rg 4 0<|mv0 rfl rfl<|bn0 rfl rfl rfl run_mul<|Dv.mini rfl trivial rfl rfl<|as0 rfl rfl<|.fin<|rg 2 0<|bn0 rfl rfl rfl run_add<|mv0 rfl rfl<|.fin<|bk j1665 (min (w64 (2 * x1662)) 16,w64 (x1663 + 1)) H
theorem sender_Sender_again.c {k:Nat} {a0:SSnd} {a1:VView} {a2:Int} {p0_ p1_:OV} {r:Bool×SSnd} (h:sender_Sender_again.f k a0 a1 a2 = some r):Tr Tryz.prog 103 [eq p0_.1,eq p1_.1,vI a2] [SSnd.O p0_ a0,VView.O p1_ a1] (γ:=Unit) (fun _=>True) (fun g=>vB r.1) (fun g=>[SSnd.O p0_ r.2,VView.O p1_ a1]):=by
 unfold sender_Sender_again.f at h
 refine tb Tryz.func103 Tryz.ntmps103 h fun R0 F H=>?_
 refine WP.seq<|rg 1 0<|as0 rfl rfl<|.fin<|WP.seq<|wg (SSnd.opn 0 rfl) fun g1667 h1668=>?_
 refine gr H fun g1669 H=>wg (opt_some 3 rfl (isN g1669)) fun _ _=>?_
 refine wg (Fly.opn 0 rfl) fun g1670 h1671=>?_
 refine dg Tryz.checked.mixed 15 8192<|mv0 rfl rfl<|mv0 rfl rfl<|Dv.nilpp h1668 rfl trivial rfl<|fp h1668 rfl trivial rfl fa161_2<|ld 1 rfl trivial rfl sc9 rfl rfl<|mv0 rfl rfl<|Dv.nilpp h1668 rfl trivial rfl<|fp h1668 rfl trivial rfl fa161_4<|ld 1 rfl trivial rfl sc159 rfl rfl<|Dv.nilpp h1671 rfl trivial rfl<|fp h1671 rfl trivial rfl fa227_0<|fb rfl trivial rfl fa168_4<|ld 0 rfl trivial rfl sc40 rfl rfl<|el H fun t1672 h1673 H=>cx 5 [4,0,1,2,3] cal106 (gate_Choose.c h1673 (p0_:=p1_)) pC fun _ _=>?_
 refine as0 rfl rfl<|.fin<|WP.seq<|WP.seq<|rg 3 0<|mv0 rfl rfl<|Dv.lenl rfl trivial rfl Tryz.underlying40<|bn0 rfl rfl rfl run_eq<|.fin<|cd H rfl (fun _ H=>?_) (fun _ H=>?_)
 ·
  refine WP.seq<|rg 4 8<|mv0 rfl rfl<|Dv.nilpp h1668 rfl trivial rfl<|fp h1668 rfl trivial rfl fa161_4<|sx 2 rfl trivial rfl rfl cE sz159 rfl rfl rfl nofun ?_
  refine .fin<|WP.seq<|rg 1 0<|as0 rfl rfl<|.fin<|wg (st_nilP (O:=Fly.O)) fun _ _=>?_
  refine wg (SSnd.shut (p:=p0_) (m:=(⟨a0.fQueue,a0.fself,a0.fto,a0.fids,none⟩:SSnd)) (g1667.1,g1667.2.1,g1667.2.2.1,nilP) h1668 (pm 6 [3,4,5,0,1,2])) fun _ _=>?_
  refine wg (Fly.shut (p:=g1667.2.2.2) (m:=a0.fair.getD default) g1670 h1671 (pm 3 [2,0,1])) fun _ _=>?_
  refine wg (opt_back0 (O:=Fly.O) (o:=a0.fair) (isN g1669) 0 rfl) fun _ _=>?_
  cases H.out; exact rt i2 rfl () 3 [0,1,2] 1 (.cons (res_tmp rfl) .nil)
 refine WP.skip<|WP.seq<|rg 9 256<|mv0 rfl rfl<|Dv.nilpp h1668 rfl trivial rfl<|fp h1668 rfl trivial rfl fa161_4<|ld 2 rfl trivial rfl sc159 rfl rfl<|mv0 rfl rfl<|Dv.nilpp h1671 rfl trivial rfl<|fp h1671 rfl trivial rfl fa227_0<|fb rfl trivial rfl fa168_4<|sx 1 rfl trivial rfl rfl (cells_one one_sl) sz40 rfl rfl rfl nofun ?_
 refine .fin<|WP.seq<|rg 11 1024<|mv0 rfl rfl<|Dv.nilpp h1668 rfl trivial rfl<|fp h1668 rfl trivial rfl fa161_4<|ld 2 rfl trivial rfl sc159 rfl rfl<|Dv.nilpp h1671 rfl trivial rfl<|fp h1671 rfl trivial rfl fa227_1<|ld 1 rfl trivial rfl sc3 rfl rfl<|bn0 rfl rfl rfl run_add<|Dv.nilpp h1671 rfl trivial rfl<|fp h1671 rfl trivial rfl fa227_1<|sx 1 rfl trivial rfl rfl cE sz3 rfl rfl rfl nofun ?_
 refine .fin<|WP.seq<|dg Tryz.checked.mixed 17 65536<|mv0 rfl rfl<|Dv.nilpp h1668 rfl trivial rfl<|fp h1668 rfl trivial rfl fa161_4<|ld 2 rfl trivial rfl sc159 rfl rfl<|mv0 rfl rfl<|mv0 rfl rfl<|Dv.nilpp h1668 rfl trivial rfl<|fp h1668 rfl trivial rfl fa161_4<|ld 2 rfl trivial rfl sc159 rfl rfl<|Dv.nilpp h1671 rfl trivial rfl<|fp h1671 rfl trivial rfl fa227_1<|ld 1 rfl trivial rfl sc3 rfl rfl<|el H fun t1675 h1676 H=>cl rfl cal109 rfl (clock_Backoff.c h1676)<|bn0 rfl rfl rfl run_add<|Dv.nilpp h1671 rfl trivial rfl<|fp h1671 rfl trivial rfl fa227_2<|sx 1 rfl trivial rfl rfl cE sz3 rfl rfl rfl pB ?_
 refine .fin<|WP.seq<|rg 1 0<|as0 rfl rfl<|.fin<|wg (Fly.shut (p:=g1667.2.2.2) (m:=(⟨(⟨((a0.fair.getD default).fp).fAck,((a0.fair.getD default).fp).fFrom,((a0.fair.getD default).fp).fTo,((a0.fair.getD default).fp).fID,t1672⟩:Par),w64 (((a0.fair.getD default).ftries) + 1),w64 (a2 + t1675)⟩:Fly)) g1670 h1671 (pm 5 [1,0,2,3,4])) fun _ _=>?_
 refine wg (opt_back1 (O:=Fly.O) 0 rfl) fun _ _=>?_
 refine wg (SSnd.shut (p:=p0_) (m:=(⟨a0.fQueue,a0.fself,a0.fto,a0.fids,some (⟨(⟨((a0.fair.getD default).fp).fAck,((a0.fair.getD default).fp).fFrom,((a0.fair.getD default).fp).fTo,((a0.fair.getD default).fp).fID,t1672⟩:Par),w64 (((a0.fair.getD default).ftries) + 1),w64 (a2 + t1675)⟩:Fly)⟩:SSnd)) (g1667.1,g1667.2.1,g1667.2.2.1,g1667.2.2.2) h1668 (pm 5 [2,3,4,0,1])) fun _ _=>?_
 cases H.out; exact rt i2 rfl () 2 [0,1] 0 (.cons (res_tmp rfl) .nil)
theorem sender_Sender_told.c {a0:SSnd} {v0_0 v0_1 v0_2 v0_3 v0_4:OV} {b0_ d0_0 d0_1:Nat} {e0_0:v0_0.1 = .pointer (some ⟨d0_0,0,none⟩)} {e0_1:v0_1.1 = .pointer (some ⟨d0_1,0,none⟩)} {r:Par} (h:sender_Sender_told.f a0 = some r):Tr Tryz.prog 104 [eq (.pointer (some ⟨b0_,0,none⟩))] [blk b0_ 161 [eq v0_0.1,vS a0.fself,vS a0.fto,eq v0_1.1,eq v0_2.1],blk d0_0 211 [vI a0.fQueue.fmost,eq v0_3.1,eq v0_4.1,vI a0.fQueue.flost],own EKey.K v0_3.1 a0.fQueue.fkeys,mp EKey.kv (fun x:Edu=>agg (Edu.enc x)) v0_4.1 a0.fQueue.fat,blk d0_1 137 [vI a0.fids.fn.fv,vI a0.fids.fmost],optO Fly.O v0_2 a0.fair] (γ:=Unit) (fun _=>True) (fun g=>agg (Par.enc r)) (fun g=>[blk b0_ 161 [eq v0_0.1,vS a0.fself,vS a0.fto,eq v0_1.1,eq v0_2.1],blk d0_0 211 [vI a0.fQueue.fmost,eq v0_3.1,eq v0_4.1,vI a0.fQueue.flost],own EKey.K v0_3.1 a0.fQueue.fkeys,mp EKey.kv (fun x:Edu=>agg (Edu.enc x)) v0_4.1 a0.fQueue.fat,blk d0_1 137 [vI a0.fids.fn.fv,vI a0.fids.fmost],optO Fly.O v0_2 a0.fair]):=by
 unfold sender_Sender_told.f at h
 refine tb Tryz.func104 Tryz.ntmps104 h fun R0 F H=>?_
 refine WP.seq<|rg 1 1<|al rfl trivial zc168 nofun fun b1677=>.fin<|WP.seq<|rg 9 384<|mv0 rfl rfl<|Dv.nilp rfl trivial rfl<|fb rfl trivial rfl fa161_4<|ld 1 rfl trivial rfl sc159 rfl rfl<|gr H fun g1678 H=>vg (opt_some 6 rfl (isN g1678)) fun _ _=>?_
 refine Dv.nilA Fly.nn rfl trivial rfl (mem_at 0 rfl)<|vg (Fly.opn 0 rfl) fun g1679 h1680=>?_
 refine fp h1680 rfl trivial rfl fa227_0<|lds 0 rfl trivial rfl sg168 rfl rfl<|al rfl trivial zc168 nofun fun b1681=>sx 0 rfl trivial rfl rfl cA sz168 rfl rfl rfl nofun ?_
 refine .fin<|WP.seq<|rg 5 20<|fb rfl trivial rfl fa168_4<|ld 0 rfl trivial rfl sc40 rfl rfl<|el H fun t1682 h1683 H=>cx 8 [0,1,2,3,4,5,6,7] cal179 (slices_Clone_Edu.c h1683) nofun fun g1684 _=>?_
 refine fb rfl trivial rfl fa168_4<|sx 1 rfl trivial rfl rfl (cells_one one_ov) sz40 rfl rfl rfl nofun ?_
 refine .fin<|WP.seq<|rg 2 2<|lds 1 rfl trivial rfl sg168 rfl rfl<|sx 3 rfl trivial rfl rfl cA sz168 rfl rfl rfl nofun ?_
 refine .fin<|wg (Fly.shut (p:=v0_2) (m:=a0.fair.getD default) g1679 h1680 (pm 9 [2,0,1,3,4,5,6,7,8])) fun _ _=>?_
 refine wg (opt_back0 (O:=Fly.O) (o:=a0.fair) (isN g1678) 0 rfl) fun _ _=>?_
 refine WP.gh (gh_frz (E':=[(2,eq (.pointer (some ⟨b1677,0,none⟩)))]) (l':=[optO Fly.O v0_2 a0.fair,blk b1681 168 [vB (((a0.fair.getD default).fp).fAck),vS (((a0.fair.getD default).fp).fFrom),vS (((a0.fair.getD default).fp).fTo),vI (((a0.fair.getD default).fp).fID),sl Edu.K t1682],blk b1677 168 [vB (((a0.fair.getD default).fp).fAck),vS (((a0.fair.getD default).fp).fFrom),vS (((a0.fair.getD default).fp).fTo),vI (((a0.fair.getD default).fp).fID),sl Edu.K t1682],blk b0_ 161 [eq v0_0.1,vS a0.fself,vS a0.fto,eq v0_1.1,eq v0_2.1],blk d0_0 211 [vI a0.fQueue.fmost,eq v0_3.1,eq v0_4.1,vI a0.fQueue.flost],own EKey.K v0_3.1 a0.fQueue.fkeys,mp EKey.kv (fun x:Edu=>agg (Edu.enc x)) v0_4.1 a0.fQueue.fat,blk d0_1 137 [vI a0.fids.fn.fv,vI a0.fids.fmost]]++F) 1 rfl (cve_cons rfl cv_id cve_nil) (all2_app (.cons cva_id (.cons (cva_blk (.cons cv_id (.cons cv_id (.cons cv_id (.cons cv_id (.cons cv_eq .nil)))))) (.cons (cva_blk (.cons cv_id (.cons cv_id (.cons cv_id (.cons cv_id (.cons cv_eq .nil)))))) (.cons cva_id (.cons cva_id (.cons cva_id (.cons cva_id (.cons cva_id .nil)))))))) fun _=>cva_id)) (fun _ _=>?_)
 cases H.out; exact rt i2 rfl () 8 [1,2,3,4,5,6,7,0] 2 (.cons (res_cells rfl Tryz.underlying168 rfl c168 (mem_at 2 rfl) rfl) .nil)
theorem queue_Queue_All.c {k:Nat} {a0:SQue} {v0_0 v0_1:OV} {b0_:Nat} {r:(List Edu)} (h:queue_Queue_All.f k a0 = some r):Tr Tryz.prog 107 [eq (.pointer (some ⟨b0_,0,none⟩))] [blk b0_ 211 [vI a0.fmost,eq v0_0.1,eq v0_1.1,vI a0.flost],own EKey.K v0_0.1 a0.fkeys,mp EKey.kv (fun x:Edu=>agg (Edu.enc x)) v0_1.1 a0.fat] (γ:=Unit) (fun _=>True) (fun g=>sl Edu.K r) (fun g=>[blk b0_ 211 [vI a0.fmost,eq v0_0.1,eq v0_1.1,vI a0.flost],own EKey.K v0_0.1 a0.fkeys,mp EKey.kv (fun x:Edu=>agg (Edu.enc x)) v0_1.1 a0.fat]):=by
 unfold queue_Queue_All.f at h
 refine tb Tryz.func107 Tryz.ntmps107 h fun R0 F H=>?_
 refine WP.seq<|rg 1 0<|as0 rfl rfl<|.fin<|WP.seq<|rg 1 0<|as0 rfl rfl<|.fin<|WP.seqn H (fun q1698:(Int×Bool×(List Edu))×OV=>q1698.1) (fun q1698:(Int×Bool×(List Edu))×OV=>[(3,eq q1698.2.1)]) (fun q1698:(Int×Bool×(List Edu))×OV=>[blk b0_ 211 [vI a0.fmost,eq v0_0.1,eq v0_1.1,vI a0.flost],own EKey.K v0_0.1 a0.fkeys,mp EKey.kv (fun x:Edu=>agg (Edu.enc x)) v0_1.1 a0.fat,own Edu.K q1698.2.1 q1698.1.2.2]++F) (fun q1698 H=>?_) (fun H=>?_)
 ·
  obtain ⟨p1685,v1686⟩:=q1698
  refine WP.seq<|rg 2 0<|mv0 rfl rfl<|as0 rfl rfl<|.fin<|WP.gh (gh_frz (E':=[(2,sl Edu.K p1685.2.2)]) (l':=[blk b0_ 211 [vI a0.fmost,eq v0_0.1,eq v0_1.1,vI a0.flost],own EKey.K v0_0.1 a0.fkeys,mp EKey.kv (fun x:Edu=>agg (Edu.enc x)) v0_1.1 a0.fat]++F) 3 rfl (cve_cons rfl cv_eq cve_nil) (all2_app (.cons cva_id (.cons cva_id (.cons cva_id .nil))) fun _=>cva_id)) (fun _ _=>?_)
  cases H.out; exact rt i2 rfl () 3 [0,1,2] 0 (.cons (res_tmp rfl) .nil)
 refine WP.seq<|rg 6 0<|mv0 rfl rfl<|Dv.nilp rfl trivial rfl<|fb rfl trivial rfl fa211_1<|ld 0 rfl trivial rfl sc208 rfl rfl<|Dv.lenw rfl trivial rfl (mem_at 1 rfl) Tryz.underlying208<|mv0 rfl rfl<|.fin<|WP.block<|wg (st_nil Edu.K none) fun _ _=>?_
 refine wg (sg 4 [1,2,3,0] 0) fun _ _=>?_
 refine lp (fun j_ (p1697:Int×(List Edu)×OV)=>queue_Queue_All.l0 k a0 j_ p1697.1 p1697.2.1) (0,([]:List Edu),nilV) H (fun p1697=>[(0,eq (.pointer (some ⟨b0_,0,none⟩))),(3,eq p1697.2.2.1),(9,eq v0_0.1),(10,vI (a0.fkeys.length:Int)),(11,vI p1697.1)]) (fun p1697=>[blk b0_ 211 [vI a0.fmost,eq v0_0.1,eq v0_1.1,vI a0.flost],own EKey.K v0_0.1 a0.fkeys,mp EKey.kv (fun x:Edu=>agg (Edu.enc x)) v0_1.1 a0.fat,own Edu.K p1697.2.2.1 p1697.2.1]++F) ?_
 rintro j_ ⟨x1687,x1688,v1689⟩ H
 rcases j_ with _ | j1696
 ·
  exact (Gets.no H).elim
 try dsimp only at H
 rw [queue_Queue_All.l0] at H
 refine WP.seq<|rg 1 0<|bn0 rfl rfl rfl run_lt<|.fin<|WP.seq<|cd H rfl (fun _ H=>?_) (fun _ H=>?_)
 rotate_left
 ·
  refine WP.exit ?_
  have H:=H.out
  exact jn ((x1687,decide (x1687 < (a0.fkeys.length:Int)),x1688),v1689) H
 refine WP.skip<|WP.seq<|WP.block<|WP.seq<|rg 4 12<|gr H fun g1691 H=>?_
 have h1692:x1687.toNat < a0.fkeys.length:=idx_lt g1691
 refine Dv.ixw rfl trivial rfl (mem_at 1 rfl) rfl Tryz.underlying208 Tryz.underlying264 c264 g1691.1 g1691.2<|Dv.ldws (j:=x1687.toNat) (f:=0) rfl trivial rfl (mem_at 1 rfl) h1692 Tryz.underlying264 rfl c264 (Nat.le_of_ble_eq_true rfl)<|al rfl trivial zc264 nofun fun b1693=>sx 0 rfl trivial rfl rfl cA sz264 rfl rfl rfl nofun ?_
 refine .fin<|dg Tryz.checked.mixed 10 256<|mv0 rfl rfl<|mv0 rfl rfl<|Dv.nilp rfl trivial rfl<|fb rfl trivial rfl fa211_2<|ld 1 rfl trivial rfl sc209 rfl rfl<|lds 0 rfl trivial rfl sg264 rfl rfl<|Dv.mlvq (⟨0,(⟨#[]⟩:ByteArray),(⟨#[]⟩:ByteArray),(⟨#[]⟩:ByteArray),(⟨#[]⟩:ByteArray),false,false,0,0,0,0⟩:Edu) rfl trivial rfl (mem_at 3 rfl) rfl (EKey.kq (a0.fkeys.getD x1687.toNat default)) Tryz.underlying209 kok264 z80 (fun _=>⟨_,rfl,Cs.eqz rfl⟩)<|Dv.lit Edu.K ([(mget a0.fat (a0.fkeys.getD x1687.toNat default)).getD (⟨0,(⟨#[]⟩:ByteArray),(⟨#[]⟩:ByteArray),(⟨#[]⟩:ByteArray),(⟨#[]⟩:ByteArray),false,false,0,0,0,0⟩:Edu)]:List Edu) (css:=[Edu.enc ((mget a0.fat (a0.fkeys.getD x1687.toNat default)).getD (⟨0,(⟨#[]⟩:ByteArray),(⟨#[]⟩:ByteArray),(⟨#[]⟩:ByteArray),(⟨#[]⟩:ByteArray),false,false,0,0,0,0⟩:Edu))]) rfl trivial Tryz.underlying40 Tryz.underlying80 c80 z80 rfl (by decide) (by decide) rfl ⟨(cells_agg (Edu.K.one _)),trivial⟩ rfl rfl rfl<|gr H fun g1694 H=>ap Edu.K 4 ([(mget a0.fat (a0.fkeys.getD x1687.toNat default)).getD (⟨0,(⟨#[]⟩:ByteArray),(⟨#[]⟩:ByteArray),(⟨#[]⟩:ByteArray),(⟨#[]⟩:ByteArray),false,false,0,0,0,0⟩:Edu)]:List Edu) src_sl Tryz.underlying40 (.inr ⟨_,Tryz.underlying40⟩) inf80 g1694 pB fun v1695=>?_
 refine as0 rfl rfl<|.fin<|rg 2 0<|bn0 rfl rfl rfl run_add<|mv0 rfl rfl<|.fin<|ng (sg 5 [0,1,2,3,4] 1) fun _ _=>?_
 exact bk j1696 (w64 (x1687 + 1),x1688++([(mget a0.fat (a0.fkeys.getD x1687.toNat default)).getD (⟨0,(⟨#[]⟩:ByteArray),(⟨#[]⟩:ByteArray),(⟨#[]⟩:ByteArray),(⟨#[]⟩:ByteArray),false,false,0,0,0,0⟩:Edu)]:List Edu),v1695) H
theorem queue_Queue_Keep_1.c {a0:Edu} {c0:Edu} {r:Bool} (h:queue_Queue_Keep_1.f a0 c0 = some r):Pt Tryz.prog 180 [agg (Edu.enc a0),rp [vI c0.fKind,vS c0.fRoom,vS c0.fUser,vS c0.fEvent,vS c0.fThread,vB c0.fPrivate,vB c0.fOn,vI c0.fSpan,vI c0.fState,vI c0.fTick,vI c0.fStamp]] (vB r):=by
 unfold queue_Queue_Keep_1.f at h
 refine pb Tryz.func180 Tryz.ntmps180 h fun R0 F H=>?_
 refine WP.seq<|rg 2 1<|Dv.box rfl trivial rfl cA nofun fun b1699=>as0 rfl rfl<|.fin<|WP.seq<|rg 6 0<|lds 0 rfl trivial rfl sg80 rfl rfl<|Dv.blda (qs:=[vI a0.fKind,vS a0.fRoom,vS a0.fUser,vS a0.fEvent,vS a0.fThread,vB a0.fPrivate,vB a0.fOn,vI a0.fSpan,vI a0.fState,vI a0.fTick,vI a0.fStamp]) (css:=[Edu.enc a0]) rfl trivial Tryz.underlying310 Tryz.underlying80 c80 z310 rfl ⟨(cells_agg (Edu.K.one _)),trivial⟩ rfl rfl<|ldsR rfl trivial rfl sg80 rfl<|Dv.blda (qs:=[vI c0.fKind,vS c0.fRoom,vS c0.fUser,vS c0.fEvent,vS c0.fThread,vB c0.fPrivate,vB c0.fOn,vI c0.fSpan,vI c0.fState,vI c0.fTick,vI c0.fStamp]) (css:=[Edu.enc c0]) rfl trivial Tryz.underlying310 Tryz.underlying80 c80 z310 rfl ⟨(cells_agg (Edu.K.one _)),trivial⟩ rfl rfl<|Dv.eqs [.int .i64 a0.fKind,.string a0.fRoom,.string a0.fUser,.string a0.fEvent,.string a0.fThread,.bool a0.fPrivate,.bool a0.fOn,.int .i64 a0.fSpan,.int .i64 a0.fState,.int .i64 a0.fTick,.int .i64 a0.fStamp] [.int .i64 c0.fKind,.string c0.fRoom,.string c0.fUser,.string c0.fEvent,.string c0.fThread,.bool c0.fPrivate,.bool c0.fOn,.int .i64 c0.fSpan,.int .i64 c0.fState,.int .i64 c0.fTick,.int .i64 c0.fStamp] rfl trivial rfl rfl rfl rfl eg310 (fun _=>equal_of 3 (by decide) (fun _=>eq_arr1 Tryz.underlying310 Tryz.underlying80 rfl c80 rfl rfl (eqt80 a0 c0)))<|as0 rfl rfl<|.fin ?_
 cases H.out; exact r1 i2 rfl (.cons (res_tmp rfl) .nil)
theorem slices_ContainsFunc_Edu.c {k:Nat} {a0:List Edu} {a1:Edu→Option Bool} {r:Bool} (h:slices_ContainsFunc_Edu.f k a0 a1 = some r):Pt Tryz.prog 181 [sl Edu.K a0,fq_api_Edu_bool a1] (vB r):=by
 unfold slices_ContainsFunc_Edu.f at h
 refine pb Tryz.func181 Tryz.ntmps181 h fun R0 F H=>?_
 refine WP.seq<|rg 1 0<|as0 rfl rfl<|.fin<|WP.seq<|rg 5 0<|mv0 rfl rfl<|mv0 rfl rfl<|el H fun t1700 h1701 H=>cl rfl cal236 rfl (slices_IndexFunc_Edu.c h1701)<|bn0 rfl rfl rfl run_ge<|as0 rfl rfl<|.fin ?_
 cases H.out; exact r0 i2 rfl (.cons (res_tmp rfl) .nil)
theorem slices_ContainsFunc_Edu_x.c {k:Nat} {a0:List Edu} {a1:(Edu→Option Bool)} {X1_:As} {r:Bool} (h:slices_ContainsFunc_Edu_x.f k a0 a1 = some r):Tr Tryz.prog 181 [sl Edu.K a0,fx_api_Edu_bool X1_ a1] [X1_] (γ:=Unit) (fun _=>True) (fun g=>vB r) (fun g=>[X1_]):=by
 unfold slices_ContainsFunc_Edu_x.f at h
 refine tb Tryz.func181 Tryz.ntmps181 h fun R0 F H=>?_
 refine WP.seq<|rg 1 0<|as0 rfl rfl<|.fin<|WP.seq<|rg 5 0<|mv0 rfl rfl<|mv0 rfl rfl<|el H fun t1702 h1703 H=>cll 1 [0] cal236 (slices_IndexFunc_Edu_x.c h1703 (X1_:=X1_)) ?_
 refine bn0 rfl rfl rfl run_ge<|as0 rfl rfl<|.fin ?_
 cases H.out; exact rt i2 rfl () 1 [0] 0 (.cons (res_tmp rfl) .nil)
theorem queue_Queue_Keep.c {k:Nat} {a0:SQue} {a1:List Edu} {p0_:OV} {r:SQue} (h:queue_Queue_Keep.f k a0 a1 = some r):Tr Tryz.prog 105 [eq p0_.1,sl Edu.K a1] [SQue.O p0_ a0] (γ:=Unit) (fun _=>True) (fun g=>tup []) (fun g=>[SQue.O p0_ r]):=by
 unfold queue_Queue_Keep.f at h
 refine tb Tryz.func105 Tryz.ntmps105 h fun R0 F H=>?_
 refine WP.seq<|rg 4 0<|mv0 rfl rfl<|vg (SQue.opn 0 rfl) fun g1706 h1707=>?_
 refine el H fun t1708 h1709 H=>cll 3 [0,1,2] cal107 (Tr.weak (queue_Queue_All.c h1709 (b0_:=g1706.1) (v0_0:=g1706.2.1) (v0_1:=g1706.2.2)) (.cons (wk_ptr h1707) .nil)) ?_
 refine Dv.lenl rfl trivial rfl Tryz.underlying40<|mv0 rfl rfl<|.fin<|WP.block<|wg (SQue.shut (p:=p0_) (m:=a0) (g1706.1,g1706.2.1,g1706.2.2) h1707 (pm 3 [0,1,2])) fun _ _=>?_
 refine wg (sg 1 [0] 0) fun _ _=>?_
 refine lp (fun j_ (p1723:Int×SQue)=>queue_Queue_Keep.l0 k a1 t1708 j_ p1723.1 p1723.2) (0,a0) H (fun p1723=>[(0,eq p0_.1),(1,sl Edu.K a1),(8,sl Edu.K t1708),(9,vI (t1708.length:Int)),(10,vI p1723.1)]) (fun p1723=>[SQue.O p0_ p1723.2]++F) ?_
 rintro j_ ⟨x1710,x1711⟩ H
 rcases j_ with _ | j1722
 ·
  exact (Gets.no H).elim
 try dsimp only at H
 rw [queue_Queue_Keep.l0] at H
 refine WP.seq<|rg 1 0<|bn0 rfl rfl rfl run_lt<|.fin<|WP.seq<|cd H rfl (fun _ H=>?_) (fun _ H=>?_)
 rotate_left
 ·
  refine WP.exit ?_
  obtain rfl:=Gets.out H
  exact re rfl () 1 [0] 0 .nil
 refine WP.skip<|WP.seq<|WP.block<|WP.seq<|rg 4 12<|gr H fun g1713 H=>Dv.ixr rfl trivial rfl rfl Tryz.underlying40 Tryz.underlying80 c80 g1713.1 g1713.2<|ldsR rfl trivial rfl sg80 rfl<|al rfl trivial zc80 nofun fun b1714=>sx 0 rfl trivial rfl rfl cA sz80 rfl rfl rfl nofun ?_
 refine .fin<|WP.seq<|rg 2 0<|Dv.gh (gh_frzb (E':=[(0,eq p0_.1),(1,sl Edu.K a1),(5,rp [vI ((Edu.K.at t1708 x1710).fKind),vS ((Edu.K.at t1708 x1710).fRoom),vS ((Edu.K.at t1708 x1710).fUser),vS ((Edu.K.at t1708 x1710).fEvent),vS ((Edu.K.at t1708 x1710).fThread),vB ((Edu.K.at t1708 x1710).fPrivate),vB ((Edu.K.at t1708 x1710).fOn),vI ((Edu.K.at t1708 x1710).fSpan),vI ((Edu.K.at t1708 x1710).fState),vI ((Edu.K.at t1708 x1710).fTick),vI ((Edu.K.at t1708 x1710).fStamp)]),(8,sl Edu.K t1708),(9,vI (t1708.length:Int)),(10,vI x1710),(11,vB (decide (x1710 < (t1708.length:Int))))]) (l':=[SQue.O p0_ x1711]++F) 0 rfl (cve_cons rfl cv_id (cve_cons rfl cv_id (cve_cons rfl cv_eq (cve_cons rfl cv_id (cve_cons rfl cv_id (cve_cons rfl cv_id (cve_cons rfl cv_id cve_nil))))))) (all2_app (.cons cva_id .nil) fun _=>cva_id)) (fun _ _=>?_)
 refine Dv.mkx (Q:=fqQ_api_Edu_bool (fun a0_=>queue_Queue_Keep_1.f a0_ (Edu.K.at t1708 x1710))) (L:=[]) cal180 (by rintro _ _ ⟨a0_,r_,h_,rfl,rfl⟩; exact (queue_Queue_Keep_1.c h_).tr) rfl trivial rfl rfl<|as0 rfl rfl<|.fin<|WP.seq<|rg 4 0<|mv0 rfl rfl<|mv0 rfl rfl<|el H fun t1715 h1716 H=>cl rfl cal181 rfl ((Tr.unpkr (A:=[]) (L:=[]) (slices_ContainsFunc_Edu_x.c h1716 (X1_:=(pk [])))).pt)<|un0 rfl rfl (run_not _)<|.fin<|cd H rfl (fun _ H=>?_) (fun _ H=>?_)
 rotate_left
 ·
  exact WP.skip<|rg 2 0<|bn0 rfl rfl rfl run_add<|mv0 rfl rfl<|.fin<|bk j1722 (w64 (x1710 + 1),x1711) H
 refine rg 4 8<|mv0 rfl rfl<|ldsR rfl trivial rfl sg80 rfl<|el H fun t1718 h1719 H=>cl rfl cal143 rfl (edu_Of.c h1719)<|el H fun t1720 h1721 H=>cx 1 [0] cal145 (queue_Queue_drop.c h1721 (p0_:=p0_)) nofun fun _ _=>?_
 exact .fin<|rg 2 0<|bn0 rfl rfl rfl run_add<|mv0 rfl rfl<|.fin<|bk j1722 (w64 (x1710 + 1),t1720) H
theorem queue_Queue_Take.c {k:Nat} {a0:SQue} {a1:Int} {p0_:OV} {r:(List Edu)×SQue} (h:queue_Queue_Take.f k a0 a1 = some r):Tr Tryz.prog 108 [eq p0_.1,vI a1] [SQue.O p0_ a0] (γ:=Unit) (fun _=>True) (fun g=>sl Edu.K r.1) (fun g=>[SQue.O p0_ r.2]):=by
 unfold queue_Queue_Take.f at h
 refine tb Tryz.func108 Tryz.ntmps108 h fun R0 F H=>?_
 refine WP.seq<|rg 1 0<|as0 rfl rfl<|.fin<|WP.seq<|rg 3 0<|mv0 rfl rfl<|vg (SQue.opn 0 rfl) fun g1724 h1725=>?_
 refine el H fun t1726 h1727 H=>cll 3 [0,1,2] cal107 (Tr.weak (queue_Queue_All.c h1727 (b0_:=g1724.1) (v0_0:=g1724.2.1) (v0_1:=g1724.2.2)) (.cons (wk_ptr h1725) .nil)) ?_
 refine as0 rfl rfl<|.fin<|WP.seq<|rg 8 0<|mv0 rfl rfl<|mv0 rfl rfl<|Dv.maxi rfl trivial rfl rfl<|mv0 rfl rfl<|Dv.lenl rfl trivial rfl Tryz.underlying40<|Dv.mini rfl trivial rfl rfl<|gr H fun g1728 H=>Dv.sls rfl trivial rfl Tryz.underlying40 Tryz.underlying80 c80 bdE_none (bdE_some rfl g1728.1) g1728.2.1 g1728.2.2<|as0 rfl rfl<|.fin<|WP.seqn H id (fun p1729:Int×Bool×SQue=>[(5,sl Edu.K ((t1726.take ((min (max a1 0) (t1726.length:Int)).toNat)).drop 0))]) (fun p1729:Int×Bool×SQue=>[SQue.O p0_ p1729.2.2]++F) (fun p1729 H=>?_) (fun H=>?_)
 ·
  refine WP.seq<|rg 2 0<|mv0 rfl rfl<|as0 rfl rfl<|.fin ?_
  cases H.out; exact rt i2 rfl () 1 [0] 0 (.cons (res_tmp rfl) .nil)
 refine WP.seq<|rg 3 0<|mv0 rfl rfl<|Dv.lenl rfl trivial rfl Tryz.underlying40<|mv0 rfl rfl<|.fin<|WP.block<|wg (SQue.shut (p:=p0_) (m:=a0) (g1724.1,g1724.2.1,g1724.2.2) h1725 (pm 3 [0,1,2])) fun _ _=>?_
 refine wg (sg 1 [0] 0) fun _ _=>?_
 refine lp (fun j_ (p1740:Int×SQue)=>queue_Queue_Take.l0 k a1 t1726 j_ p1740.1 p1740.2) (0,a0) H (fun p1740=>[(0,eq p0_.1),(5,sl Edu.K ((t1726.take ((min (max a1 0) (t1726.length:Int)).toNat)).drop 0)),(17,sl Edu.K ((t1726.take ((min (max a1 0) (t1726.length:Int)).toNat)).drop 0)),(18,vI (((t1726.take ((min (max a1 0) (t1726.length:Int)).toNat)).drop 0).length:Int)),(19,vI p1740.1)]) (fun p1740=>[SQue.O p0_ p1740.2]++F) ?_
 rintro j_ ⟨x1730,x1731⟩ H
 rcases j_ with _ | j1739
 ·
  exact (Gets.no H).elim
 try dsimp only at H
 rw [queue_Queue_Take.l0] at H
 refine WP.seq<|rg 1 0<|bn0 rfl rfl rfl run_lt<|.fin<|WP.seq<|cd H rfl (fun _ H=>?_) (fun _ H=>?_)
 rotate_left
 ·
  refine WP.exit ?_
  have H:=H.out
  exact jn (x1730,decide (x1730 < (((t1726.take ((min (max a1 0) (t1726.length:Int)).toNat)).drop 0).length:Int)),x1731) H
 refine WP.skip<|WP.seq<|WP.block<|WP.seq<|rg 4 12<|gr H fun g1733 H=>Dv.ixr rfl trivial rfl rfl Tryz.underlying40 Tryz.underlying80 c80 g1733.1 g1733.2<|ldsR rfl trivial rfl sg80 rfl<|al rfl trivial zc80 nofun fun b1734=>sx 0 rfl trivial rfl rfl cA sz80 rfl rfl rfl nofun ?_
 refine .fin<|rg 4 8<|mv0 rfl rfl<|lds 0 rfl trivial rfl sg80 rfl rfl<|el H fun t1735 h1736 H=>cl rfl cal143 rfl (edu_Of.c h1736)<|el H fun t1737 h1738 H=>cx 2 [1,0] cal145 (queue_Queue_drop.c h1738 (p0_:=p0_)) nofun fun _ _=>?_
 refine .fin<|rg 2 0<|bn0 rfl rfl rfl run_add<|mv0 rfl rfl<|.fin<|ng (sg 2 [1,0] 1) fun _ _=>?_
 exact bk j1739 (w64 (x1730 + 1),t1737) H
theorem sender_Sender_Send.c {k:Nat} {a0:SSnd} {a1:VView} {a2:Int} {p0_ p1_:OV} {r:Par×Bool×Int×SSnd} (h:sender_Sender_Send.f k a0 a1 a2 = some r):Tr Tryz.prog 68 [eq p0_.1,eq p1_.1,vI a2] [SSnd.O p0_ a0,VView.O p1_ a1] (γ:=Unit) (fun _=>True) (fun g=>tup [agg (Par.enc r.1),vB r.2.1,vI r.2.2.1]) (fun g=>[SSnd.O p0_ r.2.2.2,VView.O p1_ a1]):=by
 unfold sender_Sender_Send.f at h
 refine tb Tryz.func68 Tryz.ntmps68 h fun R0 F H=>?_
 refine WP.seq<|rg 3 1<|al rfl trivial zc168 nofun fun b1741=>as0 rfl rfl<|as0 rfl rfl<|.fin<|WP.seqr H id (fun p1742:SSnd=>[(0,eq p0_.1),(1,eq p1_.1),(2,vI a2),(6,eq (.pointer (some ⟨b1741,0,none⟩)))]) (fun p1742:SSnd=>[blk b1741 168 [vB false,vS (⟨#[]⟩:ByteArray),vS (⟨#[]⟩:ByteArray),vI 0,eq (.slice none 0 0)],SSnd.O p0_ p1742,VView.O p1_ a1]++F) (fun p1742 H=>?_) (fun H=>?_)
 rotate_left
 ·
  refine WP.seq<|rg 5 0<|mv0 rfl rfl<|Dv.nilA SSnd.nn rfl trivial rfl (mem_at 1 rfl)<|vg (SSnd.opn 1 rfl) fun g1773 h1774=>?_
  refine fp h1774 rfl trivial rfl fa161_4<|ld 0 rfl trivial rfl sc159 rfl rfl<|Dv.one0 (fun _=>Fly.nn) rfl trivial rfl rfl Tryz.underlying159 (mem_at 3 rfl)<|.fin<|cd H rfl (fun c1775 H=>?_) (fun _ H=>?_)
  rotate_left
  ·
   refine WP.skip ?_
   have H:=H.out
   refine ng (SSnd.shut (p:=p0_) (m:=a0) (g1773.1,g1773.2.1,g1773.2.2.1,g1773.2.2.2) h1774 (pm 6 [0,1,2,3,4,5])) fun _ _=>?_
   refine ng (sg 3 [1,0,2] 0) fun _ _=>?_
   exact jn a0 H
  refine wg (opt_some 3 rfl (by simpa using c1775)) fun _ _=>?_
  refine WP.seq<|WP.seq<|rg 9 0<|mv0 rfl rfl<|mv0 rfl rfl<|Dv.nilpp h1774 rfl trivial rfl<|fp h1774 rfl trivial rfl fa161_4<|ld 1 rfl trivial rfl sc159 rfl rfl<|Dv.nilA Fly.nn rfl trivial rfl (mem_at 0 rfl)<|vg (Fly.opn 0 rfl) fun g1776 h1777=>?_
  refine fp h1777 rfl trivial rfl fa227_2<|ld 0 rfl trivial rfl sc3 rfl rfl<|bn0 rfl rfl rfl run_lt<|.fin<|cd H rfl (fun _ H=>?_) (fun _ H=>?_)
  ·
   refine WP.seq<|rg 4 2<|Dv.bld (qs:=[vB false,vS (⟨#[]⟩:ByteArray),vS (⟨#[]⟩:ByteArray),vI 0,eq (.slice none 0 0)]) (css:=[]) rfl trivial Tryz.underlying168 pl168 z168 rfl trivial rfl rfl<|sx 4 rfl trivial rfl rfl cA sz168 rfl rfl rfl nofun ?_
   refine as0 rfl rfl<|as0 rfl rfl<|.fin<|wg (Fly.shut (p:=g1773.2.2.2) (m:=a0.fair.getD default) g1776 h1777 (pm 6 [0,1,2,3,4,5])) fun _ _=>?_
   refine wg (opt_back0 (O:=Fly.O) (o:=a0.fair) (by simpa using c1775) 0 rfl) fun _ _=>?_
   refine wg (SSnd.shut (p:=p0_) (m:=a0) (g1773.1,g1773.2.1,g1773.2.2.1,g1773.2.2.2) h1774 (pm 6 [1,2,3,0,4,5])) fun _ _=>?_
   have H:=H.outr
   cases H.out; exact rt i2 rfl () 3 [1,0,2] 1 (.cons (res_wk (res_cells rfl Tryz.underlying168 rfl c168 (mem_at 1 rfl) rfl) (wk_agg (.cons wk_id (.cons wk_id (.cons wk_id (.cons wk_id (.cons wk_nil .nil))))))) (.cons (res_tmp rfl) (.cons (res_tmp rfl) .nil)))
  refine WP.skip<|WP.seq<|rg 4 8<|mv0 rfl rfl<|mv0 rfl rfl<|mv0 rfl rfl<|vg (Fly.shut (p:=g1773.2.2.2) (m:=a0.fair.getD default) g1776 h1777 (pm 6 [0,1,2,3,4,5])) fun _ _=>?_
  refine vg (opt_back0 (O:=Fly.O) (o:=a0.fair) (by simpa using c1775) 0 rfl) fun _ _=>?_
  refine vg (SSnd.shut (p:=p0_) (m:=a0) (g1773.1,g1773.2.1,g1773.2.2.1,g1773.2.2.2) h1774 (pm 6 [1,2,3,0,4,5])) fun _ _=>?_
  refine el H fun t1779 h1780 H=>cx 3 [0,2,1] cal103 (sender_Sender_again.c h1780 (p0_:=p0_) (p1_:=p1_)) nofun fun _ _=>?_
  refine .fin<|cd H rfl (fun _ H=>?_) (fun _ H=>?_)
  rotate_left
  ·
   refine WP.skip ?_
   have H:=H.out
   refine ng (sg 3 [2,0,1] 0) fun _ _=>?_
   exact jn t1779.2 H
  refine WP.seq<|rg 5 4<|mv0 rfl rfl<|vg (SSnd.opn 0 rfl) fun g1782 h1783=>?_
  refine vg (SQue.opn 1 rfl) fun g1784 h1785=>?_
  refine vg (Ctr.opn 4 rfl) fun g1786 h1787=>?_
  refine el H fun t1788 h1789 H=>cll 8 [4,1,2,3,0,5,6,7] cal104 (Tr.weak (sender_Sender_told.c h1789 (b0_:=g1782.1) (v0_0:=g1782.2.1) (v0_1:=g1782.2.2.1) (v0_2:=g1782.2.2.2) (v0_3:=g1784.2.1) (v0_4:=g1784.2.2) (d0_0:=g1784.1) (e0_0:=h1785) (d0_1:=g1786) (e0_1:=h1787)) (.cons (wk_ptr h1783) .nil)) ?_
  refine sx 7 rfl trivial rfl rfl cA sz168 rfl rfl rfl nofun ?_
  refine as0 rfl rfl<|as0 rfl rfl<|.fin<|wg (SQue.shut (p:=g1782.2.1) (m:=t1779.2.fQueue) (g1784.1,g1784.2.1,g1784.2.2) h1785 (pm 8 [1,2,3,0,4,5,6,7])) fun _ _=>?_
  refine wg (Ctr.shut (p:=g1782.2.2.1) (m:=t1779.2.fids) g1786 h1787 (pm 6 [1,0,2,3,4,5])) fun _ _=>?_
  refine wg (SSnd.shut (p:=p0_) (m:=t1779.2) (g1782.1,g1782.2.1,g1782.2.2.1,g1782.2.2.2) h1783 (pm 6 [2,1,0,3,4,5])) fun _ _=>?_
  have H:=H.outr
  cases H.out; exact rt i2 rfl () 3 [2,0,1] 1 (.cons (res_cells rfl Tryz.underlying168 rfl c168 (mem_at 2 rfl) rfl) (.cons (res_tmp rfl) (.cons (res_tmp rfl) .nil)))
 refine WP.seq<|wg (SSnd.opn 1 rfl) fun g1743 h1744=>?_
 refine wg (SQue.opn 1 rfl) fun g1745 h1746=>?_
 refine dg Tryz.checked.mixed 16 49152<|mv0 rfl rfl<|Dv.nilpp h1744 rfl trivial rfl<|fp h1744 rfl trivial rfl fa161_0<|ld 3 rfl trivial rfl sc158 rfl rfl<|mv0 rfl rfl<|mv0 rfl rfl<|Dv.nilpp h1744 rfl trivial rfl<|fp h1744 rfl trivial rfl fa161_2<|ld 3 rfl trivial rfl sc9 rfl rfl<|mv0 rfl rfl<|Dv.nilpp h1744 rfl trivial rfl<|fp h1744 rfl trivial rfl fa161_0<|ld 3 rfl trivial rfl sc158 rfl rfl<|el H fun t1747 h1748 H=>cll 8 [0,1,2,3,4,5,6,7] cal107 (Tr.weak (queue_Queue_All.c h1748 (b0_:=g1745.1) (v0_0:=g1745.2.1) (v0_1:=g1745.2.2)) (.cons (wk_ptr h1746) .nil)) ?_
 refine el H fun t1749 h1750 H=>Dv.callx (pre:=[VView.O p1_ a1]) (F:=[blk g1745.1 211 [vI p1742.fQueue.fmost,eq g1745.2.1.1,eq g1745.2.2.1,vI p1742.fQueue.flost],own EKey.K g1745.2.1.1 p1742.fQueue.fkeys,mp EKey.kv (fun x:Edu=>agg (Edu.enc x)) g1745.2.2.1 p1742.fQueue.fat,blk g1743.1 161 [eq g1743.2.1.1,vS p1742.fself,vS p1742.fto,eq g1743.2.2.1.1,eq g1743.2.2.2.1],Ctr.O g1743.2.2.1 p1742.fids,optO Fly.O g1743.2.2.2 p1742.fair,blk b1741 168 [vB false,vS (⟨#[]⟩:ByteArray),vS (⟨#[]⟩:ByteArray),vI 0,eq (.slice none 0 0)]]++F) (fun _:Unit=>[VView.O p1_ a1,blk g1745.1 211 [vI p1742.fQueue.fmost,eq g1745.2.1.1,eq g1745.2.2.1,vI p1742.fQueue.flost],own EKey.K g1745.2.1.1 p1742.fQueue.fkeys,mp EKey.kv (fun x:Edu=>agg (Edu.enc x)) g1745.2.2.1 p1742.fQueue.fat,blk g1743.1 161 [eq g1743.2.1.1,vS p1742.fself,vS p1742.fto,eq g1743.2.2.1.1,eq g1743.2.2.2.1],Ctr.O g1743.2.2.1 p1742.fids,optO Fly.O g1743.2.2.2 p1742.fair,blk b1741 168 [vB false,vS (⟨#[]⟩:ByteArray),vS (⟨#[]⟩:ByteArray),vI 0,eq (.slice none 0 0)]]++F) rfl trivial cal106 rfl (gate_Choose.c h1750 (p0_:=p1_)) (perm_to (L:=[blk g1745.1 211 [vI p1742.fQueue.fmost,eq g1745.2.1.1,eq g1745.2.2.1,vI p1742.fQueue.flost],own EKey.K g1745.2.1.1 p1742.fQueue.fkeys,mp EKey.kv (fun x:Edu=>agg (Edu.enc x)) g1745.2.2.1 p1742.fQueue.fat,blk g1743.1 161 [eq g1743.2.1.1,vS p1742.fself,vS p1742.fto,eq g1743.2.2.1.1,eq g1743.2.2.2.1],Ctr.O g1743.2.2.1 p1742.fids,optO Fly.O g1743.2.2.2 p1742.fair,blk b1741 168 [vB false,vS (⟨#[]⟩:ByteArray),vS (⟨#[]⟩:ByteArray),vI 0,eq (.slice none 0 0)],VView.O p1_ a1]) (F:=F) [7,0,1,2,3,4,5,6] (by kernel_rfl) rfl rfl) rfl (fun _=>pendc (pend_by (by kernel_rfl) (pend_by (by kernel_rfl) (pend_by (by kernel_rfl) (pend_by (by kernel_rfl) (pend_by (by kernel_rfl) (pend_by (by kernel_rfl) (pend_by (by kernel_rfl) (pend_by (by kernel_rfl) (pend_by (by kernel_rfl) (pend_by (by kernel_rfl) (pend_in (fun _=>(mem_at 4 rfl)) (pend_in (fun _=>trivial) (pend_in (fun _=>trivial) (pend_in (fun _=>trivial) pend_nil))))))))))))))) (fun _ _=>?_)
 refine el H fun t1751 h1752 H=>cx 8 [1,2,3,0,4,5,6,7] cal105 (Tr.pre (pre':=[blk g1745.1 211 [vI p1742.fQueue.fmost,eq g1745.2.1.1,eq g1745.2.2.1,vI p1742.fQueue.flost],own EKey.K g1745.2.1.1 p1742.fQueue.fkeys,mp EKey.kv (fun x:Edu=>agg (Edu.enc x)) g1745.2.2.1 p1742.fQueue.fat]) (queue_Queue_Keep.c h1752 (p0_:=g1743.2.1)) (fun F R w=>SQue.shut (p:=g1743.2.1) (m:=p1742.fQueue) (r:=F) (g1745.1,g1745.2.1,g1745.2.2) h1746 (List.Perm.refl _) R w)) pC fun _ _=>?_
 refine .fin<|WP.seq<|WP.seq<|rg 6 0<|mv0 rfl rfl<|Dv.nilpp h1744 rfl trivial rfl<|fp h1744 rfl trivial rfl fa161_0<|ld 2 rfl trivial rfl sc158 rfl rfl<|vg (SQue.opn 0 rfl) fun g1753 h1754=>?_
 refine el H fun t1755 h1756 H=>cll 8 [0,1,2,3,4,5,6,7] cal62 (Tr.weak (queue_Queue_Len.c h1756 (b0_:=g1753.1) (v0_0:=g1753.2.1) (v0_1:=g1753.2.2)) (.cons (wk_ptr h1754) .nil)) ?_
 refine bn0 rfl rfl rfl run_eq<|.fin<|cd H rfl (fun _ H=>?_) (fun _ H=>?_)
 ·
  refine WP.seq<|rg 4 2<|Dv.bld (qs:=[vB false,vS (⟨#[]⟩:ByteArray),vS (⟨#[]⟩:ByteArray),vI 0,eq (.slice none 0 0)]) (css:=[]) rfl trivial Tryz.underlying168 pl168 z168 rfl trivial rfl rfl<|sx 7 rfl trivial rfl rfl cA sz168 rfl rfl rfl nofun ?_
  refine as0 rfl rfl<|as0 rfl rfl<|.fin<|wg (SQue.shut (p:=g1743.2.1) (m:=t1751) (g1753.1,g1753.2.1,g1753.2.2) h1754 (pm 8 [0,1,2,3,4,5,6,7])) fun _ _=>?_
  refine wg (SSnd.shut (p:=p0_) (m:=(⟨t1751,p1742.fself,p1742.fto,p1742.fids,p1742.fair⟩:SSnd)) (g1743.1,g1743.2.1,g1743.2.2.1,g1743.2.2.2) h1744 (pm 6 [2,0,3,4,1,5])) fun _ _=>?_
  cases H.out; exact rt i2 rfl () 3 [2,0,1] 1 (.cons (res_wk (res_cells rfl Tryz.underlying168 rfl c168 (mem_at 2 rfl) rfl) (wk_agg (.cons wk_id (.cons wk_id (.cons wk_id (.cons wk_id (.cons wk_nil .nil))))))) (.cons (res_tmp rfl) (.cons (res_tmp rfl) .nil)))
 refine WP.skip<|WP.seq<|rg 10 16<|mv0 rfl rfl<|Dv.nilpp h1744 rfl trivial rfl<|fp h1744 rfl trivial rfl fa161_3<|ld 4 rfl trivial rfl sc82 rfl rfl<|el H fun t1758 h1759 H=>cx 8 [5,0,1,2,3,4,6,7] cal80 (clock_Counter_Next.c h1759 (p0_:=g1743.2.2.1)) nofun fun _ _=>?_
 refine mv0 rfl rfl<|ex0 rfl trivial rfl rfl<|ex0 rfl trivial rfl rfl<|as0 rfl rfl<|as0 rfl rfl<|.fin<|WP.seq<|WP.seq<|rg 2 0<|mv0 rfl rfl<|bn0 rfl rfl rfl run_ne<|.fin<|cd H rfl (fun _ H=>?_) (fun _ H=>?_)
 ·
  refine WP.seq<|rg 5 4<|Dv.bld (qs:=[vB false,vS (⟨#[]⟩:ByteArray),vS (⟨#[]⟩:ByteArray),vI 0,eq (.slice none 0 0)]) (css:=[]) rfl trivial Tryz.underlying168 pl168 z168 rfl trivial rfl rfl<|mv0 rfl rfl<|sx 7 rfl trivial rfl rfl cA sz168 rfl rfl rfl nofun ?_
  refine as0 rfl rfl<|as0 rfl rfl<|.fin<|wg (SQue.shut (p:=g1743.2.1) (m:=t1751) (g1753.1,g1753.2.1,g1753.2.2) h1754 (pm 8 [1,2,3,0,4,5,6,7])) fun _ _=>?_
  refine wg (SSnd.shut (p:=p0_) (m:=(⟨t1751,p1742.fself,p1742.fto,t1758.2.2,p1742.fair⟩:SSnd)) (g1743.1,g1743.2.1,g1743.2.2.1,g1743.2.2.2) h1744 (pm 6 [3,0,1,4,2,5])) fun _ _=>?_
  cases H.out; exact rt i2 rfl () 3 [2,0,1] 1 (.cons (res_wk (res_cells rfl Tryz.underlying168 rfl c168 (mem_at 2 rfl) rfl) (wk_agg (.cons wk_id (.cons wk_id (.cons wk_id (.cons wk_id (.cons wk_nil .nil))))))) (.cons (res_tmp rfl) (.cons (res_tmp rfl) .nil)))
 refine WP.skip<|WP.seq<|WP.dgf (kf:=15) Tryz.checked.mixed [(0,false),(1,false),(2,false),(3,false),(4,false),(5,false),(6,false),(7,false),(8,false),(9,false),(10,false),(11,false),(12,false),(13,true),(14,false)] [(16,true)] rfl (by kernel_rfl)<|mv0 rfl rfl<|Dv.nilpp h1744 rfl trivial rfl<|fp h1744 rfl trivial rfl fa161_1<|ld 5 rfl trivial rfl sc9 rfl rfl<|mv0 rfl rfl<|Dv.nilpp h1744 rfl trivial rfl<|fp h1744 rfl trivial rfl fa161_2<|ld 5 rfl trivial rfl sc9 rfl rfl<|mv0 rfl rfl<|mv0 rfl rfl<|Dv.nilpp h1744 rfl trivial rfl<|fp h1744 rfl trivial rfl fa161_0<|ld 5 rfl trivial rfl sc158 rfl rfl<|Dv.float ?_ (fun hk_=>?_)
 rotate_left
 ·
  refine el H fun t1761 h1762 H=>Dv.callx (pre:=[blk g1753.1 211 [vI t1751.fmost,eq g1753.2.1.1,eq g1753.2.2.1,vI t1751.flost],own EKey.K g1753.2.1.1 t1751.fkeys,mp EKey.kv (fun x:Edu=>agg (Edu.enc x)) g1753.2.2.1 t1751.fat]) (F:=[Ctr.O g1743.2.2.1 t1758.2.2,VView.O p1_ a1,blk g1743.1 161 [eq g1743.2.1.1,vS p1742.fself,vS p1742.fto,eq g1743.2.2.1.1,eq g1743.2.2.2.1],optO Fly.O g1743.2.2.2 p1742.fair,blk b1741 168 [vB false,vS (⟨#[]⟩:ByteArray),vS (⟨#[]⟩:ByteArray),vI 0,eq (.slice none 0 0)]]++F) (fun _:Unit=>[SQue.O g1743.2.1 t1761.2,Ctr.O g1743.2.2.1 t1758.2.2,VView.O p1_ a1,blk g1743.1 161 [eq g1743.2.1.1,vS p1742.fself,vS p1742.fto,eq g1743.2.2.1.1,eq g1743.2.2.2.1],optO Fly.O g1743.2.2.2 p1742.fair,blk b1741 168 [vB false,vS (⟨#[]⟩:ByteArray),vS (⟨#[]⟩:ByteArray),vI 0,eq (.slice none 0 0)]]++F) rfl trivial cal108 rfl (Tr.pre (pre':=[blk g1753.1 211 [vI t1751.fmost,eq g1753.2.1.1,eq g1753.2.2.1,vI t1751.flost],own EKey.K g1753.2.1.1 t1751.fkeys,mp EKey.kv (fun x:Edu=>agg (Edu.enc x)) g1753.2.2.1 t1751.fat]) (queue_Queue_Take.c h1762 (p0_:=g1743.2.1)) (fun F R w=>SQue.shut (p:=g1743.2.1) (m:=t1751) (r:=F) (g1753.1,g1753.2.1,g1753.2.2) h1754 (List.Perm.refl _) R w)) (perm_to (L:=[Ctr.O g1743.2.2.1 t1758.2.2,blk g1753.1 211 [vI t1751.fmost,eq g1753.2.1.1,eq g1753.2.2.1,vI t1751.flost],own EKey.K g1753.2.1.1 t1751.fkeys,mp EKey.kv (fun x:Edu=>agg (Edu.enc x)) g1753.2.2.1 t1751.fat,VView.O p1_ a1,blk g1743.1 161 [eq g1743.2.1.1,vS p1742.fself,vS p1742.fto,eq g1743.2.2.1.1,eq g1743.2.2.2.1],optO Fly.O g1743.2.2.2 p1742.fair,blk b1741 168 [vB false,vS (⟨#[]⟩:ByteArray),vS (⟨#[]⟩:ByteArray),vI 0,eq (.slice none 0 0)]]) (F:=F) [1,2,3,0,4,5,6,7] (by kernel_rfl) rfl rfl) rfl (fun _=>pendc (pend_by (by kernel_rfl) (pend_by (by kernel_rfl) (pend_by (by kernel_rfl) (pend_by (by kernel_rfl) (pend_in (fun _=>trivial) (pend_in (fun _=>(mem_at 3 rfl)) (pend_in (fun _=>trivial) (pend_in (fun _=>trivial) (pend_in (fun _=>trivial) (pend_in (fun _=>(mem_at 3 rfl)) (pend_in (fun _=>trivial) (pend_in (fun _=>trivial) (pend_in (fun _=>trivial) pend_nil)))))))))))))) (fun _ _=>?_)
  refine Dv.bld (qs:=[vB false,vS p1742.fself,vS p1742.fto,vI t1758.1,sl Edu.K t1761.1]) (css:=[[vS p1742.fself],[vS p1742.fto],[vI t1758.1],[sl Edu.K t1761.1]]) rfl trivial Tryz.underlying168 pl168 z168 rfl ⟨(cells_one (one_eq rfl)),⟨(cells_one (one_eq rfl)),⟨(cells_one (one_eq rfl)),⟨(cells_one one_sl),trivial⟩⟩⟩⟩ rfl rfl<|.fin<|up_al rfl trivial zc168 (all1 (fun _=>trivial) (allp (by kernel_rfl) (allp (by kernel_rfl) (allp (by kernel_rfl) (allp (by kernel_rfl) (all1 (fun _=>trivial) (all1 (fun _=>mem_at 4 rfl) (all1 (fun _=>trivial) (all1 (fun _=>trivial) (all1 (fun _=>trivial) (all1 (fun _=>mem_at 4 rfl) (all1 (fun _=>trivial) (all1 (fun _=>trivial) (all1 (fun _=>trivial) all0)))))))))))))) (fun b1763=>?_)
  refine sx 0 rfl trivial rfl rfl cA sz168 rfl rfl rfl pB ?_
  refine .fin<|WP.seq<|dg Tryz.checked.mixed 10 576<|mv0 rfl rfl<|lds 0 rfl trivial rfl sg168 rfl rfl<|mv0 rfl rfl<|el H fun t1764 h1765 H=>cl rfl cal109 rfl (clock_Backoff.c h1765)<|bn0 rfl rfl rfl run_add<|Dv.bld (qs:=[vB false,vS p1742.fself,vS p1742.fto,vI t1758.1,sl Edu.K t1761.1,vI 0,vI (w64 (a2 + t1764))]) (css:=[[vB false,vS p1742.fself,vS p1742.fto,vI t1758.1,sl Edu.K t1761.1],[vI 0],[vI (w64 (a2 + t1764))]]) rfl trivial Tryz.underlying227 pl227 z227 rfl ⟨(cells_agg (ones_cons (one_eq rfl) (ones_cons (one_eq rfl) (ones_cons (one_eq rfl) (ones_cons (one_eq rfl) (ones_cons one_sl ones_nil)))))),⟨(cells_one (one_eq rfl)),⟨(cells_one (one_eq rfl)),trivial⟩⟩⟩ rfl rfl<|Dv.box rfl trivial rfl cA (fun _=>(pend_by (by kernel_rfl) (pend_by (by kernel_rfl) (pend_by (by kernel_rfl) (pend_by (by kernel_rfl) (pend_by (by kernel_rfl) (pend_in (fun _=>trivial) pend_nil))))))) fun b1766=>Dv.nilpp h1744 rfl trivial rfl<|fp h1744 rfl trivial rfl fa161_4<|sx 5 rfl trivial rfl rfl cE sz159 rfl rfl rfl pB ?_
  refine .fin<|WP.seq<|rg 5 4<|mv0 rfl rfl<|vg (SQue.opn 2 rfl) fun g1767 h1768=>?_
  refine vg (Ctr.opn 5 rfl) fun g1769 h1770=>?_
  refine vg (Fly.shut (p:=(⟨.pointer (some ⟨b1766,0,none⟩),rfl⟩:OV)) (m:=(⟨(⟨false,p1742.fself,p1742.fto,t1758.1,t1761.1⟩:Par),0,w64 (a2 + t1764)⟩:Fly)) b1766 rfl (pm 10 [4,0,1,2,3,5,6,7,8,9])) fun _ _=>?_
  refine vg (opt_back1 (O:=Fly.O) 0 rfl) fun _ _=>?_
  refine el H fun t1771 h1772 H=>cll 10 [7,2,3,4,1,0,5,6,8,9] cal104 (Tr.weak (sender_Sender_told.c h1772 (b0_:=g1743.1) (v0_0:=g1743.2.1) (v0_1:=g1743.2.2.1) (v0_2:=(⟨.pointer (some ⟨b1766,0,none⟩),rfl⟩:OV)) (v0_3:=g1767.2.1) (v0_4:=g1767.2.2) (d0_0:=g1767.1) (e0_0:=h1768) (d0_1:=g1769) (e0_1:=h1770)) (.cons (wk_ptr h1744) .nil)) ?_
  refine sx 9 rfl trivial rfl rfl cA sz168 rfl rfl rfl nofun ?_
  refine as0 rfl rfl<|as0 rfl rfl<|.fin<|wg (SQue.shut (p:=g1743.2.1) (m:=t1761.2) (g1767.1,g1767.2.1,g1767.2.2) h1768 (pm 10 [2,3,4,0,1,5,6,7,8,9])) fun _ _=>?_
  refine wg (Ctr.shut (p:=g1743.2.2.1) (m:=t1758.2.2) g1769 h1770 (pm 8 [2,0,1,3,4,5,6,7])) fun _ _=>?_
  refine wg (SSnd.shut (p:=p0_) (m:=(⟨t1761.2,p1742.fself,p1742.fto,t1758.2.2,some (⟨(⟨false,p1742.fself,p1742.fto,t1758.1,t1761.1⟩:Par),0,w64 (a2 + t1764)⟩:Fly)⟩:SSnd)) (g1743.1,g1743.2.1,g1743.2.2.1,(⟨.pointer (some ⟨b1766,0,none⟩),rfl⟩:OV)) h1744 (pm 8 [5,1,0,2,3,4,6,7])) fun _ _=>?_
  cases H.out; exact rt i2 rfl () 5 [1,3,4,0,2] 3 (.cons (res_cells rfl Tryz.underlying168 rfl c168 (mem_at 4 rfl) rfl) (.cons (res_tmp rfl) (.cons (res_tmp rfl) .nil)))
 refine up_al rfl trivial zc168 (all1 (fun _=>mem_at 6 rfl) (all1 (fun _=>trivial) (all1 (fun _=>trivial) (all1 (fun _=>trivial) (all1 (fun _=>trivial) (all1 (fun _=>mem_at 6 rfl) (all1 (fun _=>trivial) (all1 (fun _=>trivial) (all1 (fun _=>trivial) (all1 (fun _=>mem_at 6 rfl) (all1 (fun _=>trivial) (all1 (fun _=>trivial) (all1 (fun _=>trivial) all0))))))))))))) (fun b1761=>?_)
 refine el H fun t1762 h1763 H=>Dv.callx (pre:=[blk g1753.1 211 [vI t1751.fmost,eq g1753.2.1.1,eq g1753.2.2.1,vI t1751.flost],own EKey.K g1753.2.1.1 t1751.fkeys,mp EKey.kv (fun x:Edu=>agg (Edu.enc x)) g1753.2.2.1 t1751.fat]) (F:=[blk b1761 168 [vB false,vS (⟨#[]⟩:ByteArray),vS (⟨#[]⟩:ByteArray),vI 0,eq (.slice none 0 0)],Ctr.O g1743.2.2.1 t1758.2.2,VView.O p1_ a1,blk g1743.1 161 [eq g1743.2.1.1,vS p1742.fself,vS p1742.fto,eq g1743.2.2.1.1,eq g1743.2.2.2.1],optO Fly.O g1743.2.2.2 p1742.fair,blk b1741 168 [vB false,vS (⟨#[]⟩:ByteArray),vS (⟨#[]⟩:ByteArray),vI 0,eq (.slice none 0 0)]]++F) (fun _:Unit=>[SQue.O g1743.2.1 t1762.2,blk b1761 168 [vB false,vS (⟨#[]⟩:ByteArray),vS (⟨#[]⟩:ByteArray),vI 0,eq (.slice none 0 0)],Ctr.O g1743.2.2.1 t1758.2.2,VView.O p1_ a1,blk g1743.1 161 [eq g1743.2.1.1,vS p1742.fself,vS p1742.fto,eq g1743.2.2.1.1,eq g1743.2.2.2.1],optO Fly.O g1743.2.2.2 p1742.fair,blk b1741 168 [vB false,vS (⟨#[]⟩:ByteArray),vS (⟨#[]⟩:ByteArray),vI 0,eq (.slice none 0 0)]]++F) rfl trivial cal108 rfl (Tr.pre (pre':=[blk g1753.1 211 [vI t1751.fmost,eq g1753.2.1.1,eq g1753.2.2.1,vI t1751.flost],own EKey.K g1753.2.1.1 t1751.fkeys,mp EKey.kv (fun x:Edu=>agg (Edu.enc x)) g1753.2.2.1 t1751.fat]) (queue_Queue_Take.c h1763 (p0_:=g1743.2.1)) (fun F R w=>SQue.shut (p:=g1743.2.1) (m:=t1751) (r:=F) (g1753.1,g1753.2.1,g1753.2.2) h1754 (List.Perm.refl _) R w)) (perm_to (L:=[blk b1761 168 [vB false,vS (⟨#[]⟩:ByteArray),vS (⟨#[]⟩:ByteArray),vI 0,eq (.slice none 0 0)],Ctr.O g1743.2.2.1 t1758.2.2,blk g1753.1 211 [vI t1751.fmost,eq g1753.2.1.1,eq g1753.2.2.1,vI t1751.flost],own EKey.K g1753.2.1.1 t1751.fkeys,mp EKey.kv (fun x:Edu=>agg (Edu.enc x)) g1753.2.2.1 t1751.fat,VView.O p1_ a1,blk g1743.1 161 [eq g1743.2.1.1,vS p1742.fself,vS p1742.fto,eq g1743.2.2.1.1,eq g1743.2.2.2.1],optO Fly.O g1743.2.2.2 p1742.fair,blk b1741 168 [vB false,vS (⟨#[]⟩:ByteArray),vS (⟨#[]⟩:ByteArray),vI 0,eq (.slice none 0 0)]]) (F:=F) [2,3,4,0,1,5,6,7,8] (by kernel_rfl) rfl rfl) rfl (fun _=>pendc (pend_by (by kernel_rfl) (pend_by (by kernel_rfl) (pend_by (by kernel_rfl) (pend_by (by kernel_rfl) (pend_in (fun _=>trivial) (pend_in (fun _=>(mem_at 4 rfl)) (pend_in (fun _=>trivial) (pend_in (fun _=>trivial) (pend_in (fun _=>trivial) (pend_in (fun _=>(mem_at 4 rfl)) (pend_in (fun _=>trivial) (pend_in (fun _=>trivial) (pend_in (fun _=>trivial) pend_nil)))))))))))))) (fun _ _=>?_)
 refine Dv.bld (qs:=[vB false,vS p1742.fself,vS p1742.fto,vI t1758.1,sl Edu.K t1762.1]) (css:=[[vS p1742.fself],[vS p1742.fto],[vI t1758.1],[sl Edu.K t1762.1]]) rfl trivial Tryz.underlying168 pl168 z168 rfl ⟨(cells_one (one_eq rfl)),⟨(cells_one (one_eq rfl)),⟨(cells_one (one_eq rfl)),⟨(cells_one one_sl),trivial⟩⟩⟩⟩ rfl rfl<|sx 1 rfl trivial rfl rfl cA sz168 rfl rfl rfl pB ?_
 refine .fin<|WP.seq<|dg Tryz.checked.mixed 10 576<|mv0 rfl rfl<|lds 1 rfl trivial rfl sg168 rfl rfl<|mv0 rfl rfl<|el H fun t1764 h1765 H=>cl rfl cal109 rfl (clock_Backoff.c h1765)<|bn0 rfl rfl rfl run_add<|Dv.bld (qs:=[vB false,vS p1742.fself,vS p1742.fto,vI t1758.1,sl Edu.K t1762.1,vI 0,vI (w64 (a2 + t1764))]) (css:=[[vB false,vS p1742.fself,vS p1742.fto,vI t1758.1,sl Edu.K t1762.1],[vI 0],[vI (w64 (a2 + t1764))]]) rfl trivial Tryz.underlying227 pl227 z227 rfl ⟨(cells_agg (ones_cons (one_eq rfl) (ones_cons (one_eq rfl) (ones_cons (one_eq rfl) (ones_cons (one_eq rfl) (ones_cons one_sl ones_nil)))))),⟨(cells_one (one_eq rfl)),⟨(cells_one (one_eq rfl)),trivial⟩⟩⟩ rfl rfl<|Dv.box rfl trivial rfl cA (fun _=>(pend_by (by kernel_rfl) (pend_by (by kernel_rfl) (pend_by (by kernel_rfl) (pend_by (by kernel_rfl) (pend_by (by kernel_rfl) (pend_in (fun _=>trivial) pend_nil))))))) fun b1766=>Dv.nilpp h1744 rfl trivial rfl<|fp h1744 rfl trivial rfl fa161_4<|sx 5 rfl trivial rfl rfl cE sz159 rfl rfl rfl pB ?_
 refine .fin<|WP.seq<|rg 5 4<|mv0 rfl rfl<|vg (SQue.opn 1 rfl) fun g1767 h1768=>?_
 refine vg (Ctr.opn 5 rfl) fun g1769 h1770=>?_
 refine vg (Fly.shut (p:=(⟨.pointer (some ⟨b1766,0,none⟩),rfl⟩:OV)) (m:=(⟨(⟨false,p1742.fself,p1742.fto,t1758.1,t1762.1⟩:Par),0,w64 (a2 + t1764)⟩:Fly)) b1766 rfl (pm 10 [4,0,1,2,3,5,6,7,8,9])) fun _ _=>?_
 refine vg (opt_back1 (O:=Fly.O) 0 rfl) fun _ _=>?_
 refine el H fun t1771 h1772 H=>cll 10 [7,2,3,4,1,0,5,6,8,9] cal104 (Tr.weak (sender_Sender_told.c h1772 (b0_:=g1743.1) (v0_0:=g1743.2.1) (v0_1:=g1743.2.2.1) (v0_2:=(⟨.pointer (some ⟨b1766,0,none⟩),rfl⟩:OV)) (v0_3:=g1767.2.1) (v0_4:=g1767.2.2) (d0_0:=g1767.1) (e0_0:=h1768) (d0_1:=g1769) (e0_1:=h1770)) (.cons (wk_ptr h1744) .nil)) ?_
 refine sx 9 rfl trivial rfl rfl cA sz168 rfl rfl rfl nofun ?_
 refine as0 rfl rfl<|as0 rfl rfl<|.fin<|wg (SQue.shut (p:=g1743.2.1) (m:=t1762.2) (g1767.1,g1767.2.1,g1767.2.2) h1768 (pm 10 [2,3,4,0,1,5,6,7,8,9])) fun _ _=>?_
 refine wg (Ctr.shut (p:=g1743.2.2.1) (m:=t1758.2.2) g1769 h1770 (pm 8 [2,0,1,3,4,5,6,7])) fun _ _=>?_
 refine wg (SSnd.shut (p:=p0_) (m:=(⟨t1762.2,p1742.fself,p1742.fto,t1758.2.2,some (⟨(⟨false,p1742.fself,p1742.fto,t1758.1,t1762.1⟩:Par),0,w64 (a2 + t1764)⟩:Fly)⟩:SSnd)) (g1743.1,g1743.2.1,g1743.2.2.1,(⟨.pointer (some ⟨b1766,0,none⟩),rfl⟩:OV)) h1744 (pm 8 [5,1,0,2,3,4,6,7])) fun _ _=>?_
 cases H.out; exact rt i2 rfl () 5 [1,3,4,0,2] 3 (.cons (res_cells rfl Tryz.underlying168 rfl c168 (mem_at 4 rfl) rfl) (.cons (res_tmp rfl) (.cons (res_tmp rfl) .nil)))
theorem parcel_May_1.c {k:Nat} {a0:Edu} {r:Bool} (h:parcel_May_1.f k a0 = some r):Pt Tryz.prog 185 [agg (Edu.enc a0)] (vB r):=by
 unfold parcel_May_1.f at h
 refine pb Tryz.func185 Tryz.ntmps185 h fun R0 F H=>?_
 refine WP.seq<|rg 2 1<|Dv.box rfl trivial rfl cA nofun fun b1790=>as0 rfl rfl<|.fin<|WP.seq<|rg 4 0<|lds 0 rfl trivial rfl sg80 rfl rfl<|el H fun t1791 h1792 H=>cl rfl cal142 rfl (edu_May.c h1792)<|un0 rfl rfl (run_not _)<|as0 rfl rfl<|.fin ?_
 cases H.out; exact r1 i2 rfl (.cons (res_tmp rfl) .nil)
theorem parcel_May.c {k:Nat} {a0:Par} {r:Bool} (h:parcel_May.f k a0 = some r):Pt Tryz.prog 110 [agg (Par.enc a0)] (vB r):=by
 unfold parcel_May.f at h
 refine pb Tryz.func110 Tryz.ntmps110 h fun R0 F H=>?_
 refine WP.seq<|rg 2 1<|Dv.box rfl trivial rfl cA nofun fun b1793=>as0 rfl rfl<|.fin<|WP.seq<|rg 4 0<|fb rfl trivial rfl fa168_4<|ld 0 rfl trivial rfl sc40 rfl rfl<|el H fun t1794 h1795 H=>cl rfl cal181 rfl (Pt.weak (slices_ContainsFunc_Edu.c h1795) (.cons wk_id (.cons (wk_fn cal185 (by rintro _ _ ⟨a0_,r_,h_,rfl,rfl⟩; exact parcel_May_1.c h_)) .nil)))<|as0 rfl rfl<|.fin<|WP.seq<|rg 47 0<|fb rfl trivial rfl fa168_1<|ld 0 rfl trivial rfl sc9 rfl rfl<|el H fun t1796 h1797 H=>cl rfl cal26 rfl (name_Server.c h1797)<|mv0 rfl rfl ?_
 cases c1798:t1796
 ·
  have H:=H.cf c1798
  refine sk rfl rfl<|sk rfl rfl<|sk rfl rfl<|pf0 rfl rfl rfl<|mv0 rfl rfl<|sk rfl rfl<|sk rfl rfl<|sk rfl rfl<|sk rfl rfl<|sk rfl rfl<|pf0 rfl rfl rfl<|mv0 rfl rfl<|sk rfl rfl<|sk rfl rfl<|sk rfl rfl<|pf0 rfl rfl rfl<|mv0 rfl rfl<|sk rfl rfl<|sk rfl rfl<|sk rfl rfl<|pf0 rfl rfl rfl<|mv0 rfl rfl<|sk rfl rfl<|sk rfl rfl<|sk rfl rfl<|sk rfl rfl<|pf0 rfl rfl rfl<|mv0 rfl rfl<|sk rfl rfl<|sk rfl rfl<|pf0 rfl rfl rfl<|mv0 rfl rfl<|sk rfl rfl<|sk rfl rfl<|sk rfl rfl<|sk rfl rfl<|sku rfl rfl<|sku rfl rfl<|sku rfl rfl<|sku rfl rfl<|sk rfl rfl<|pf0 rfl rfl rfl<|as0 rfl rfl<|.fin ?_
  cases H.out; exact r1 i2 rfl (.cons (res_tmp rfl) .nil)
 have H:=H.ct c1798
 refine fb rfl (gg rfl) rfl fa168_2<|ld 0 rfl (gg rfl) rfl sc9 rfl rfl<|el H fun t1799 h1800 H=>Dv.call rfl (gg rfl) cal26 rfl (name_Server.c h1800)<|pt0 rfl rfl rfl<|mv0 rfl rfl ?_
 cases c1801:t1799
 ·
  have H:=H.cf c1801
  refine sk rfl rfl<|sk rfl rfl<|sk rfl rfl<|sk rfl rfl<|sk rfl rfl<|pf0 rfl rfl rfl<|mv0 rfl rfl<|sk rfl rfl<|sk rfl rfl<|sk rfl rfl<|pf0 rfl rfl rfl<|mv0 rfl rfl<|sk rfl rfl<|sk rfl rfl<|sk rfl rfl<|pf0 rfl rfl rfl<|mv0 rfl rfl<|sk rfl rfl<|sk rfl rfl<|sk rfl rfl<|sk rfl rfl<|pf0 rfl rfl rfl<|mv0 rfl rfl<|sk rfl rfl<|sk rfl rfl<|pf0 rfl rfl rfl<|mv0 rfl rfl<|sk rfl rfl<|sk rfl rfl<|sk rfl rfl<|sk rfl rfl<|sku rfl rfl<|sku rfl rfl<|sku rfl rfl<|sku rfl rfl<|sk rfl rfl<|pf0 rfl rfl rfl<|as0 rfl rfl<|.fin ?_
  cases H.out; exact r1 i2 rfl (.cons (res_tmp rfl) .nil)
 have H:=H.ct c1801
 refine fb rfl (gg rfl) rfl fa168_1<|ld 0 rfl (gg rfl) rfl sc9 rfl rfl<|fb rfl (gg rfl) rfl fa168_2<|ld 0 rfl (gg rfl) rfl sc9 rfl rfl<|bng rfl rfl rfl rfl run_sne<|pt0 rfl rfl rfl<|mv0 rfl rfl ?_
 cases c1802:!decide (a0.fFrom = a0.fTo)
 ·
  have H:=H.cf c1802
  refine sk rfl rfl<|sk rfl rfl<|sk rfl rfl<|pf0 rfl rfl rfl<|mv0 rfl rfl<|sk rfl rfl<|sk rfl rfl<|sk rfl rfl<|pf0 rfl rfl rfl<|mv0 rfl rfl<|sk rfl rfl<|sk rfl rfl<|sk rfl rfl<|sk rfl rfl<|pf0 rfl rfl rfl<|mv0 rfl rfl<|sk rfl rfl<|sk rfl rfl<|pf0 rfl rfl rfl<|mv0 rfl rfl<|sk rfl rfl<|sk rfl rfl<|sk rfl rfl<|sk rfl rfl<|sku rfl rfl<|sku rfl rfl<|sku rfl rfl<|sku rfl rfl<|sk rfl rfl<|pf0 rfl rfl rfl<|as0 rfl rfl<|.fin ?_
  cases H.out; exact r1 i2 rfl (.cons (res_tmp rfl) .nil)
 have H:=H.ct c1802
 refine fb rfl (gg rfl) rfl fa168_3<|ld 0 rfl (gg rfl) rfl sc3 rfl rfl<|bng rfl rfl rfl rfl run_ge<|pt0 rfl rfl rfl<|mv0 rfl rfl ?_
 cases c1803:decide (1≤a0.fID)
 ·
  have H:=H.cf c1803
  refine sk rfl rfl<|sk rfl rfl<|sk rfl rfl<|pf0 rfl rfl rfl<|mv0 rfl rfl<|sk rfl rfl<|sk rfl rfl<|sk rfl rfl<|sk rfl rfl<|pf0 rfl rfl rfl<|mv0 rfl rfl<|sk rfl rfl<|sk rfl rfl<|pf0 rfl rfl rfl<|mv0 rfl rfl<|sk rfl rfl<|sk rfl rfl<|sk rfl rfl<|sk rfl rfl<|sku rfl rfl<|sku rfl rfl<|sku rfl rfl<|sku rfl rfl<|sk rfl rfl<|pf0 rfl rfl rfl<|as0 rfl rfl<|.fin ?_
  cases H.out; exact r1 i2 rfl (.cons (res_tmp rfl) .nil)
 have H:=H.ct c1803
 refine fb rfl (gg rfl) rfl fa168_3<|ld 0 rfl (gg rfl) rfl sc3 rfl rfl<|bng rfl rfl rfl rfl run_le<|pt0 rfl rfl rfl<|mv0 rfl rfl ?_
 cases c1804:decide (a0.fID≤1099511627776)
 ·
  have H:=H.cf c1804
  refine sk rfl rfl<|sk rfl rfl<|sk rfl rfl<|sk rfl rfl<|pf0 rfl rfl rfl<|mv0 rfl rfl<|sk rfl rfl<|sk rfl rfl<|pf0 rfl rfl rfl<|mv0 rfl rfl<|sk rfl rfl<|sk rfl rfl<|sk rfl rfl<|sk rfl rfl<|sku rfl rfl<|sku rfl rfl<|sku rfl rfl<|sku rfl rfl<|sk rfl rfl<|pf0 rfl rfl rfl<|as0 rfl rfl<|.fin ?_
  cases H.out; exact r1 i2 rfl (.cons (res_tmp rfl) .nil)
 have H:=H.ct c1804
 refine fb rfl (gg rfl) rfl fa168_4<|ld 0 rfl (gg rfl) rfl sc40 rfl rfl<|Dv.lenl rfl (gg rfl) rfl Tryz.underlying40<|bng rfl rfl rfl rfl run_le<|pt0 rfl rfl rfl<|mv0 rfl rfl ?_
 cases c1805:decide ((a0.fEdus.length:Int)≤100)
 ·
  have H:=H.cf c1805
  refine sk rfl rfl<|sk rfl rfl<|pf0 rfl rfl rfl<|mv0 rfl rfl<|sk rfl rfl<|sk rfl rfl<|sk rfl rfl<|sk rfl rfl<|sku rfl rfl<|sku rfl rfl<|sku rfl rfl<|sku rfl rfl<|sk rfl rfl<|pf0 rfl rfl rfl<|as0 rfl rfl<|.fin ?_
  cases H.out; exact r1 i2 rfl (.cons (res_tmp rfl) .nil)
 have H:=H.ct c1805
 refine mvg rfl rfl rfl<|ung rfl rfl rfl (run_not _)<|pt0 rfl rfl rfl<|mv0 rfl rfl ?_
 cases c1806:!t1794
 ·
  have H:=H.cf c1806
  refine sk rfl rfl<|sk rfl rfl<|sk rfl rfl<|sk rfl rfl<|sku rfl rfl<|sku rfl rfl<|sku rfl rfl<|sku rfl rfl<|sk rfl rfl<|pf0 rfl rfl rfl<|as0 rfl rfl<|.fin ?_
  cases H.out; exact r1 i2 rfl (.cons (res_tmp rfl) .nil)
 have H:=H.ct c1806
 refine fb rfl (gg rfl) rfl fa168_0<|ld 0 rfl (gg rfl) rfl sc4 rfl rfl<|ung rfl rfl rfl (run_not _)<|mvg rfl rfl rfl ?_
 cases c1807:!a0.fAck
 rotate_left
 ·
  have H:=H.ct c1807
  refine sk rfl rfl<|sk rfl rfl<|sk rfl rfl<|sk rfl rfl<|ptg rfl rfl rfl rfl<|pt0 rfl rfl rfl<|as0 rfl rfl<|.fin ?_
  cases H.out; exact r1 i2 rfl (.cons (res_tmp rfl) .nil)
 have H:=H.cf c1807
 refine fb rfl (gg rfl) rfl fa168_4<|ld 0 rfl (gg rfl) rfl sc40 rfl rfl<|Dv.lenl rfl (gg rfl) rfl Tryz.underlying40<|bng rfl rfl rfl rfl run_eq<|pfg rfl rfl rfl rfl<|pt0 rfl rfl rfl<|as0 rfl rfl<|.fin ?_
 cases H.out; exact r1 i2 rfl (.cons (res_tmp rfl) .nil)
theorem edu_Write.c {k:Nat} {a0:Edu} {r:(List Int)×Int} (h:edu_Write.f k a0 = some r):Tr Tryz.prog 114 [agg (Edu.enc a0)] [] (γ:=OV) (fun _=>True) (fun g=>tup [eq g.1,vI r.2]) (fun g=>[own (intK .u8) g.1 r.1]):=by
 unfold edu_Write.f at h
 refine tb Tryz.func114 Tryz.ntmps114 h fun R0 F H=>?_
 refine WP.seq<|rg 3 1<|Dv.box rfl trivial rfl cA nofun fun b1808=>as0 rfl rfl<|as0 rfl rfl<|.fin<|WP.seq<|WP.seq<|rg 3 0<|lds 0 rfl trivial rfl sg80 rfl rfl<|el H fun t1809 h1810 H=>cl rfl cal142 rfl (edu_May.c h1810)<|un0 rfl rfl (run_not _)<|.fin<|cd H rfl (fun _ H=>?_) (fun _ H=>?_)
 ·
  refine WP.seq<|rg 2 0<|as0 rfl rfl<|as0 rfl rfl<|.fin<|wg (st_nil (intK .u8) none) fun _ _=>?_
  obtain rfl:=Gets.out H
  exact rt i2 rfl nilV 2 [1,0] 1 (.cons (res_tmp rfl) (.cons (res_tmp rfl) .nil))
 refine WP.skip<|WP.seq<|rg 4 2<|lds 0 rfl trivial rfl sg80 rfl rfl<|el H fun t1812 h1813 H=>cx 1 [0] cal186 (edu_laid.c h1813) nofun fun g1814 _=>?_
 refine as0 rfl rfl<|as0 rfl rfl<|.fin ?_
 obtain rfl:=Gets.out H
 exact rt i2 rfl g1814 2 [1,0] 1 (.cons (res_tmp rfl) (.cons (res_tmp rfl) .nil))
theorem parcel_Write.c {k:Nat} {a0:Par} {r:(List Int)×Int} (h:parcel_Write.f k a0 = some r):Tr Tryz.prog 69 [agg (Par.enc a0)] [] (γ:=OV) (fun _=>True) (fun g=>tup [eq g.1,vI r.2]) (fun g=>[own (intK .u8) g.1 r.1]):=by
 unfold parcel_Write.f at h
 refine tb Tryz.func69 Tryz.ntmps69 h fun R0 F H=>?_
 refine WP.seq<|rg 3 1<|Dv.box rfl trivial rfl cA nofun fun b1815=>as0 rfl rfl<|as0 rfl rfl<|.fin<|WP.seq<|WP.seq<|rg 3 0<|lds 0 rfl trivial rfl sg168 rfl rfl<|el H fun t1816 h1817 H=>cl rfl cal110 rfl (parcel_May.c h1817)<|un0 rfl rfl (run_not _)<|.fin<|cd H rfl (fun _ H=>?_) (fun _ H=>?_)
 ·
  refine WP.seq<|rg 2 0<|as0 rfl rfl<|as0 rfl rfl<|.fin<|wg (st_nil (intK .u8) none) fun _ _=>?_
  obtain rfl:=Gets.out H
  exact rt i2 rfl nilV 2 [1,0] 1 (.cons (res_tmp rfl) (.cons (res_tmp rfl) .nil))
 refine WP.skip<|WP.seq<|rg 4 4<|fb rfl trivial rfl fa168_0<|ld 0 rfl trivial rfl sc4 rfl rfl<|vg (st_nil (intK .u8) none) fun _ _=>?_
 refine el H fun t1819 h1820 H=>cx 2 [0,1] cal111 (lay_Flag.c h1820 (p0_:=nilV)) nofun fun g1821 _=>?_
 refine as0 rfl rfl<|.fin<|WP.seq<|rg 5 8<|mv0 rfl rfl<|fb rfl trivial rfl fa168_1<|ld 1 rfl trivial rfl sc9 rfl rfl<|el H fun t1822 h1823 H=>cx 2 [0,1] cal112 (lay_Text.c h1823 (p0_:=g1821)) nofun fun g1824 _=>?_
 refine as0 rfl rfl<|.fin<|WP.seq<|rg 5 8<|mv0 rfl rfl<|fb rfl trivial rfl fa168_2<|ld 1 rfl trivial rfl sc9 rfl rfl<|el H fun t1825 h1826 H=>cx 2 [0,1] cal112 (lay_Text.c h1826 (p0_:=g1824)) nofun fun g1827 _=>?_
 refine as0 rfl rfl<|.fin<|WP.seq<|rg 5 8<|mv0 rfl rfl<|fb rfl trivial rfl fa168_3<|ld 1 rfl trivial rfl sc3 rfl rfl<|el H fun t1828 h1829 H=>cx 2 [0,1] cal113 (lay_Number.c h1829 (p0_:=g1827)) nofun fun g1830 _=>?_
 refine as0 rfl rfl<|.fin<|WP.seq<|rg 6 16<|mv0 rfl rfl<|fb rfl trivial rfl fa168_4<|ld 1 rfl trivial rfl sc40 rfl rfl<|Dv.lenl rfl trivial rfl Tryz.underlying40<|el H fun t1831 h1832 H=>cx 2 [0,1] cal113 (lay_Number.c h1832 (p0_:=g1830)) nofun fun g1833 _=>?_
 refine as0 rfl rfl<|.fin<|WP.seqn H (fun q1850:(Int×Bool×(List Int))×OV=>q1850.1) (fun q1850:(Int×Bool×(List Int))×OV=>[(4,eq q1850.2.1)]) (fun q1850:(Int×Bool×(List Int))×OV=>[blk b1815 168 (Par.enc a0),own (intK .u8) q1850.2.1 q1850.1.2.2]++F) (fun q1850 H=>?_) (fun H=>?_)
 ·
  obtain ⟨p1834,v1835⟩:=q1850
  refine WP.seq<|rg 3 0<|mv0 rfl rfl<|as0 rfl rfl<|as0 rfl rfl<|.fin ?_
  obtain rfl:=Gets.out H
  exact rt i2 rfl v1835 2 [0,1] 1 (.cons (res_tmp rfl) (.cons (res_tmp rfl) .nil))
 refine WP.seq<|rg 4 0<|fb rfl trivial rfl fa168_4<|ld 1 rfl trivial rfl sc40 rfl rfl<|Dv.lenl rfl trivial rfl Tryz.underlying40<|mv0 rfl rfl<|.fin<|WP.block<|wg (sg 2 [1,0] 0) fun _ _=>?_
 refine lp (fun j_ (p1849:Int×(List Int)×OV)=>parcel_Write.l0 k a0 j_ p1849.1 p1849.2.1) (0,t1831,g1833) H (fun p1849=>[(4,eq p1849.2.2.1),(33,sl Edu.K a0.fEdus),(34,vI (a0.fEdus.length:Int)),(35,vI p1849.1)]) (fun p1849=>[blk b1815 168 (Par.enc a0),own (intK .u8) p1849.2.2.1 p1849.2.1]++F) ?_
 rintro j_ ⟨x1836,x1837,v1838⟩ H
 rcases j_ with _ | j1848
 ·
  exact (Gets.no H).elim
 try dsimp only at H
 rw [parcel_Write.l0] at H
 refine WP.seq<|rg 1 0<|bn0 rfl rfl rfl run_lt<|.fin<|WP.seq<|cd H rfl (fun _ H=>?_) (fun _ H=>?_)
 rotate_left
 ·
  refine WP.exit ?_
  have H:=H.out
  exact jn ((x1836,decide (x1836 < (a0.fEdus.length:Int)),x1837),v1838) H
 refine WP.skip<|WP.seq<|WP.block<|WP.seq<|rg 4 12<|gr H fun g1840 H=>Dv.ixr rfl trivial rfl rfl Tryz.underlying40 Tryz.underlying80 c80 g1840.1 g1840.2<|ldsR rfl trivial rfl sg80 rfl<|al rfl trivial zc80 nofun fun b1841=>sx 0 rfl trivial rfl rfl cA sz80 rfl rfl rfl nofun ?_
 refine .fin<|WP.seq<|rg 7 2<|lds 0 rfl trivial rfl sg80 rfl rfl<|el H fun t1842 h1843 H=>cx 3 [0,1,2] cal114 (edu_Write.c h1843) nofun fun g1844 _=>?_
 refine mv0 rfl rfl<|ex0 rfl trivial rfl rfl<|ex0 rfl trivial rfl rfl<|as0 rfl rfl<|as0 rfl rfl<|.fin<|rg 5 8<|mv0 rfl rfl<|mv0 rfl rfl<|Dv.gh (gh_frz (E':=[(4,eq v1838.1),(6,eq (.pointer (some ⟨b1841,0,none⟩))),(7,sl (intK .u8) t1842.1),(33,sl Edu.K a0.fEdus),(34,vI (a0.fEdus.length:Int)),(35,vI x1836),(36,vB (decide (x1836 < (a0.fEdus.length:Int)))),(44,eq v1838.1),(45,sl (intK .u8) t1842.1)]) (l':=[blk b1841 80 (Edu.enc (Edu.K.at a0.fEdus x1836)),blk b1815 168 (Par.enc a0),own (intK .u8) v1838.1 x1837]++F) 0 rfl (cve_cons rfl cv_id (cve_cons rfl cv_id (cve_cons rfl cv_eq (cve_cons rfl cv_id (cve_cons rfl cv_id (cve_cons rfl cv_id (cve_cons rfl cv_id (cve_cons rfl cv_id (cve_cons rfl cv_eq cve_nil))))))))) (all2_app (.cons cva_id (.cons cva_id (.cons cva_id .nil))) fun _=>cva_id)) (fun _ _=>?_)
 refine Dv.cvbs rfl trivial rfl Tryz.underlying41 Tryz.underlying5 Tryz.underlying9<|el H fun t1845 h1846 H=>cx 3 [2,0,1] cal112 (lay_Text.c h1846 (p0_:=v1838)) nofun fun g1847 _=>?_
 refine as0 rfl rfl<|.fin<|rg 2 0<|bn0 rfl rfl rfl run_add<|mv0 rfl rfl<|.fin<|ng (sg 3 [1,2,0] 1) fun _ _=>?_
 exact bk j1848 (w64 (x1836 + 1),t1845,g1847) H
theorem server_Server_Send.c {k:Nat} {a0:SSelTicStaAllComSen} {p0_:OV} {r:(List (List Int))×SSelTicStaAllComSen} (h:server_Server_Send.f k a0 = some r):Tr Tryz.prog 40 [eq p0_.1] [SSelTicStaAllComSen.O p0_ a0] (γ:=OV) (fun _=>True) (fun g=>eq g.1) (fun g=>[SSelTicStaAllComSen.O p0_ r.2,own (slK (intK .u8)) g.1 r.1]):=by
  unfold server_Server_Send.f at h
  refine tb Tryz.func40 Tryz.ntmps40 h fun R0 F H=>?_
  refine WP.seq ?_
  refine rg 1 0 ?_
  refine Dv.asg rfl trivial rfl ?_
  refine .fin ?_
  refine WP.seq ?_
  refine rg 1 0 ?_
  refine Dv.asg rfl trivial rfl ?_
  refine .fin ?_
  obtain ⟨g1851,H⟩:=Gets.grd H
  refine WP.seqj (β:=List Nat×OV) (fun b=>b.1.Perm (List.range a0.fsenders.length)) (fun b=>[(3,eq b.2.1),(0,eq p0_.1)]) (fun b=>[own strK b.2.1 (selM a0.fsenders (fun e=>some e.1) b.1),SSelTicStaAllComSen.O p0_ a0]++F) (fun b hb=>?_) ?_
  · obtain ⟨is,v1858⟩:=b
    replace hb:is.Perm (List.range a0.fsenders.length):=hb
    have hp:=selM_perm (f:=(fun e=>some e.1)) hb
    have hs:slices_Sort_string.f (selM a0.fsenders (fun e=>some e.1) is) = some (srtS (a0.fsenders.map (·.1))):=by
      have e7:a0.fsenders.filterMap (fun e=>some e.1) = a0.fsenders.map (·.1):=by rw [← List.filterMap_eq_map]; rfl
      rw [e7] at hp
      unfold slices_Sort_string.f Sp.grd
      rw [if_pos (by rw [hp.length_eq,List.length_map]; omega),srtS_eq hp]
    refine WP.seq<|rg 2 2<|mv0 rfl rfl<|cx 2 [0,1] cal67 (slices_Sort_string.c hs (p0_:=v1858)) nofun fun _ _=>.fin ?_
    refine WP.gh (l':=fun _:Unit=>[own strK v1858.1 (srtS (a0.fsenders.map (·.1))),SSelTicStaAllComSen.O p0_ a0]++F) (gh_of (ok:=fun _=>True) fun R w k=>⟨(),trivial,k⟩) (fun _ _=>?_)
    refine WP.seq ?_
    refine rg 1 0 ?_
    refine Dv.asg rfl trivial rfl ?_
    refine .fin ?_
    refine WP.seqn H (fun q1888:(Int×Bool×SSelTicStaAllComSen×(List (List Int)))×OV=>q1888.1) (fun q1888:(Int×Bool×SSelTicStaAllComSen×(List (List Int)))×OV=>[(5,eq q1888.2.1)]) (fun q1888:(Int×Bool×SSelTicStaAllComSen×(List (List Int)))×OV=>[own strK v1858.1 (srtS (a0.fsenders.map (·.1))),SSelTicStaAllComSen.O p0_ q1888.1.2.2.1,own (slK (intK .u8)) q1888.2.1 q1888.1.2.2.2]++F) (fun q1888 H=>?_) (fun H=>?_)
    · obtain ⟨p1859,v1860⟩:=q1888
      refine WP.seq ?_
      refine rg 2 0 ?_
      refine Dv.mv rfl trivial rfl ?_
      refine Dv.asg rfl trivial rfl ?_
      refine .fin ?_
      obtain rfl:=Gets.out H
      exact WP.retL (fun _ _ h=>h) rfl v1860 trivial (.cons (res_tmp rfl) .nil) rfl (st_sel (L:=[own strK v1858.1 (srtS (a0.fsenders.map (·.1))),SSelTicStaAllComSen.O p0_ p1859.2.2.1,own (slK (intK .u8)) v1860.1 p1859.2.2.2]) (F:=F) [0,1,2] 1 rfl rfl rfl)
    · refine WP.seq ?_
      refine rg 3 0 ?_
      refine Dv.mv rfl trivial rfl ?_
      refine Dv.lenw rfl trivial rfl (mem_at 0 rfl) Tryz.underlying23 ?_
      refine Dv.mv rfl trivial rfl ?_
      refine .fin ?_
      refine WP.block ?_
      refine WP.gh (gh_of (st_nil (slK (intK .u8)) none)) (fun _ _=>?_)
      refine WP.gh (l':=fun _=>[own strK v1858.1 (srtS (a0.fsenders.map (·.1))),SSelTicStaAllComSen.O p0_ a0,own (slK (intK .u8)) nilV.1 ([]:List (List Int))]++F) (gh_of (st_selg (L:=[own (slK (intK .u8)) nilV.1 ([]:List (List Int)),own strK v1858.1 (srtS (a0.fsenders.map (·.1))),SSelTicStaAllComSen.O p0_ a0]) (F:=F) [1,2,0] 0 rfl rfl rfl)) (fun _ _=>?_)
      refine WP.loopg (fun j_ (p1887:Int×SSelTicStaAllComSen×(List (List Int))×OV)=>server_Server_Send.l0 k a0 j_ p1887.1 p1887.2.1 p1887.2.2.1) (0,a0,([]:List (List Int)),nilV) H (fun p1887=>[(0,eq p0_.1),(5,eq p1887.2.2.2.1),(28,eq v1858.1),(29,vI ((srtS (a0.fsenders.map (·.1))).length:Int)),(30,vI p1887.1)]) (fun p1887=>[own strK v1858.1 (srtS (a0.fsenders.map (·.1))),SSelTicStaAllComSen.O p0_ p1887.2.1,own (slK (intK .u8)) p1887.2.2.2.1 p1887.2.2.1]++F) (weak_cons rfl (weak_cons rfl (weak_cons rfl (weak_cons rfl (weak_cons rfl weak_nil))))) (List.Perm.refl _) ?_
      rintro j_ ⟨x1861,x1862,x1863,v1864⟩ H
      rcases j_ with _ | j1886
      · exact (Gets.no H).elim
      try dsimp only at H
      rw [server_Server_Send.l0] at H
      refine WP.seq ?_
      refine rg 1 0 ?_
      refine Dv.bin rfl trivial rfl rfl (fun _=>run_lt) ?_
      refine .fin ?_
      refine WP.seq ?_
      refine WP.cond rfl (fun c1865=>?_) (fun c1865=>?_)
      · have H:=H.ct c1865
        refine WP.skip ?_
        refine WP.seq ?_
        refine WP.block ?_
        refine WP.seq ?_
        refine rg 3 0 ?_
        obtain ⟨g1866,H⟩:=Gets.grd H
        have h1867:x1861.toNat < (srtS (a0.fsenders.map (·.1))).length:=idx_lt g1866
        refine Dv.ixw rfl trivial rfl (mem_at 0 rfl) rfl Tryz.underlying23 Tryz.underlying9 c9 g1866.1 g1866.2 ?_
        refine Dv.ldw (j:=x1861.toNat) (f:=0) (p:=vS ((srtS (a0.fsenders.map (·.1))).getD x1861.toNat default)) rfl trivial rfl (mem_at 0 rfl) h1867 Tryz.underlying9 rfl rfl ?_
        refine Dv.asg rfl trivial rfl ?_
        refine .fin ?_
        refine WP.seq ?_
        refine WP.gh (l':=fun (g1868:Nat×OV×OV×OV×OV×OV×OV×OV×OV×OV)=>[blk g1868.1 102 [vS x1862.fself,eq g1868.2.1.1,eq g1868.2.2.1.1,eq g1868.2.2.2.1.1,eq g1868.2.2.2.2.1.1,eq g1868.2.2.2.2.2.1.1,eq g1868.2.2.2.2.2.2.1.1,eq g1868.2.2.2.2.2.2.2.1.1,eq g1868.2.2.2.2.2.2.2.2.1.1,eq g1868.2.2.2.2.2.2.2.2.2.1],Ctr.O g1868.2.1 x1862.ftick,Ctr.O g1868.2.2.1 x1862.fstamps,VView.O g1868.2.2.2.1 x1862.fall.fView,Mks.O g1868.2.2.2.2.1 x1862.fall.fMarks,TTab.O g1868.2.2.2.2.2.1 x1862.fall.fTyping,PTab.O g1868.2.2.2.2.2.2.1 x1862.fall.fPresence,DLog.O g1868.2.2.2.2.2.2.2.1 x1862.fall.fLog,SMosOf.O g1868.2.2.2.2.2.2.2.2.1 x1862.fcome,mpo Value.string SSnd.O g1868.2.2.2.2.2.2.2.2.2.1 x1862.fsenders,own strK v1858.1 (srtS (a0.fsenders.map (·.1))),own (slK (intK .u8)) v1864.1 x1863]++F) (gh_of (SSelTicStaAllComSen.opn 1 rfl)) (fun g1868 h1869=>?_)
        refine WP.gh (l':=fun z1870:List OV=>[mp Value.string (fun p:OV=>eq p.1) g1868.2.2.2.2.2.2.2.2.2.1 (zipK x1862.fsenders z1870),thg SSnd.O x1862.fsenders z1870,blk g1868.1 102 [vS x1862.fself,eq g1868.2.1.1,eq g1868.2.2.1.1,eq g1868.2.2.2.1.1,eq g1868.2.2.2.2.1.1,eq g1868.2.2.2.2.2.1.1,eq g1868.2.2.2.2.2.2.1.1,eq g1868.2.2.2.2.2.2.2.1.1,eq g1868.2.2.2.2.2.2.2.2.1.1,eq g1868.2.2.2.2.2.2.2.2.2.1],Ctr.O g1868.2.1 x1862.ftick,Ctr.O g1868.2.2.1 x1862.fstamps,VView.O g1868.2.2.2.1 x1862.fall.fView,Mks.O g1868.2.2.2.2.1 x1862.fall.fMarks,TTab.O g1868.2.2.2.2.2.1 x1862.fall.fTyping,PTab.O g1868.2.2.2.2.2.2.1 x1862.fall.fPresence,DLog.O g1868.2.2.2.2.2.2.2.1 x1862.fall.fLog,SMosOf.O g1868.2.2.2.2.2.2.2.2.1 x1862.fcome,own strK v1858.1 (srtS (a0.fsenders.map (·.1))),own (slK (intK .u8)) v1864.1 x1863]++F) (gh_of (mpo_opn 9 rfl)) (fun z1870 h1871=>?_)
        obtain ⟨g1872,H⟩:=Gets.grd H
        refine WP.gh (l':=fun _:Unit=>[SSnd.O ((mget (zipK x1862.fsenders z1870) ((srtS (a0.fsenders.map (·.1))).getD x1861.toNat default)).getD nilP) ((mget x1862.fsenders ((srtS (a0.fsenders.map (·.1))).getD x1861.toNat default)).getD default),thgB SSnd.O x1862.fsenders z1870 ((srtS (a0.fsenders.map (·.1))).getD x1861.toNat default),mp Value.string (fun p:OV=>eq p.1) g1868.2.2.2.2.2.2.2.2.2.1 (zipK x1862.fsenders z1870),blk g1868.1 102 [vS x1862.fself,eq g1868.2.1.1,eq g1868.2.2.1.1,eq g1868.2.2.2.1.1,eq g1868.2.2.2.2.1.1,eq g1868.2.2.2.2.2.1.1,eq g1868.2.2.2.2.2.2.1.1,eq g1868.2.2.2.2.2.2.2.1.1,eq g1868.2.2.2.2.2.2.2.2.1.1,eq g1868.2.2.2.2.2.2.2.2.2.1],Ctr.O g1868.2.1 x1862.ftick,Ctr.O g1868.2.2.1 x1862.fstamps,VView.O g1868.2.2.2.1 x1862.fall.fView,Mks.O g1868.2.2.2.2.1 x1862.fall.fMarks,TTab.O g1868.2.2.2.2.2.1 x1862.fall.fTyping,PTab.O g1868.2.2.2.2.2.2.1 x1862.fall.fPresence,DLog.O g1868.2.2.2.2.2.2.2.1 x1862.fall.fLog,SMosOf.O g1868.2.2.2.2.2.2.2.2.1 x1862.fcome,own strK v1858.1 (srtS (a0.fsenders.map (·.1))),own (slK (intK .u8)) v1864.1 x1863]++F) (gh_of (mpo_foc h1871 rfl g1872 (perm_to (L:=[mp Value.string (fun p:OV=>eq p.1) g1868.2.2.2.2.2.2.2.2.2.1 (zipK x1862.fsenders z1870),thg SSnd.O x1862.fsenders z1870,blk g1868.1 102 [vS x1862.fself,eq g1868.2.1.1,eq g1868.2.2.1.1,eq g1868.2.2.2.1.1,eq g1868.2.2.2.2.1.1,eq g1868.2.2.2.2.2.1.1,eq g1868.2.2.2.2.2.2.1.1,eq g1868.2.2.2.2.2.2.2.1.1,eq g1868.2.2.2.2.2.2.2.2.1.1,eq g1868.2.2.2.2.2.2.2.2.2.1],Ctr.O g1868.2.1 x1862.ftick,Ctr.O g1868.2.2.1 x1862.fstamps,VView.O g1868.2.2.2.1 x1862.fall.fView,Mks.O g1868.2.2.2.2.1 x1862.fall.fMarks,TTab.O g1868.2.2.2.2.2.1 x1862.fall.fTyping,PTab.O g1868.2.2.2.2.2.2.1 x1862.fall.fPresence,DLog.O g1868.2.2.2.2.2.2.2.1 x1862.fall.fLog,SMosOf.O g1868.2.2.2.2.2.2.2.2.1 x1862.fcome,own strK v1858.1 (srtS (a0.fsenders.map (·.1))),own (slK (intK .u8)) v1864.1 x1863]) (F:=F) [1,0,2,3,4,5,6,7,8,9,10,11,12] (by kernel_rfl) rfl rfl))) (fun _ _=>?_)
        refine WP.dgf (kf:=18) Tryz.checked.mixed [(0,false),(1,false),(2,false),(3,false),(4,false),(5,false),(6,false),(7,false),(8,false),(9,false),(10,false),(11,false),(12,false),(13,true),(14,false),(15,false),(16,false),(17,false)] [(19,true),(20,false),(21,false)] rfl (by kernel_rfl) ?_
        refine Dv.mv rfl trivial rfl ?_
        refine Dv.nilpp h1869 rfl trivial rfl ?_
        refine fp h1869 rfl trivial rfl fa102_5 ?_
        refine ld 3 rfl trivial rfl sc100 rfl rfl ?_
        refine Dv.mv rfl trivial rfl ?_
        refine Dv.mlv nilP rfl trivial rfl (mem_at 2 rfl) rfl Tryz.underlying100 (keyOk_str Tryz.underlying9) z104 (fun _=>rfl) ?_
        refine Dv.mv rfl trivial rfl ?_
        refine Dv.nilpp h1869 rfl trivial rfl ?_
        refine fp h1869 rfl trivial rfl fa102_3 ?_
        refine fb rfl trivial rfl fa99_0 ?_
        refine ld 3 rfl trivial rfl sc33 rfl rfl ?_
        refine Dv.mv rfl trivial rfl ?_
        obtain ⟨t1873,h1874,H⟩:=Gets.call H
        refine Dv.calll (B:=[blk g1868.1 102 [vS x1862.fself,eq g1868.2.1.1,eq g1868.2.2.1.1,eq g1868.2.2.2.1.1,eq g1868.2.2.2.2.1.1,eq g1868.2.2.2.2.2.1.1,eq g1868.2.2.2.2.2.2.1.1,eq g1868.2.2.2.2.2.2.2.1.1,eq g1868.2.2.2.2.2.2.2.2.1.1,eq g1868.2.2.2.2.2.2.2.2.2.1],Ctr.O g1868.2.1 x1862.ftick]) (F:=[SSnd.O ((mget (zipK x1862.fsenders z1870) ((srtS (a0.fsenders.map (·.1))).getD x1861.toNat default)).getD nilP) ((mget x1862.fsenders ((srtS (a0.fsenders.map (·.1))).getD x1861.toNat default)).getD default),thgB SSnd.O x1862.fsenders z1870 ((srtS (a0.fsenders.map (·.1))).getD x1861.toNat default),mp Value.string (fun p:OV=>eq p.1) g1868.2.2.2.2.2.2.2.2.2.1 (zipK x1862.fsenders z1870),Ctr.O g1868.2.2.1 x1862.fstamps,VView.O g1868.2.2.2.1 x1862.fall.fView,Mks.O g1868.2.2.2.2.1 x1862.fall.fMarks,TTab.O g1868.2.2.2.2.2.1 x1862.fall.fTyping,PTab.O g1868.2.2.2.2.2.2.1 x1862.fall.fPresence,DLog.O g1868.2.2.2.2.2.2.2.1 x1862.fall.fLog,SMosOf.O g1868.2.2.2.2.2.2.2.2.1 x1862.fcome,own strK v1858.1 (srtS (a0.fsenders.map (·.1))),own (slK (intK .u8)) v1864.1 x1863]++F) rfl trivial cal9 rfl (Tr.weak (server_Server_Tick_o.c (b:=g1868.1) (qs:=[vS x1862.fself,eq g1868.2.1.1,eq g1868.2.2.1.1,eq g1868.2.2.2.1.1,eq g1868.2.2.2.2.1.1,eq g1868.2.2.2.2.2.1.1,eq g1868.2.2.2.2.2.2.1.1,eq g1868.2.2.2.2.2.2.2.1.1,eq g1868.2.2.2.2.2.2.2.2.1.1,eq g1868.2.2.2.2.2.2.2.2.2.1]) (p:=g1868.2.1) rfl h1874) (.cons (wk_ptr h1869) .nil)) (perm_to (L:=[SSnd.O ((mget (zipK x1862.fsenders z1870) ((srtS (a0.fsenders.map (·.1))).getD x1861.toNat default)).getD nilP) ((mget x1862.fsenders ((srtS (a0.fsenders.map (·.1))).getD x1861.toNat default)).getD default),thgB SSnd.O x1862.fsenders z1870 ((srtS (a0.fsenders.map (·.1))).getD x1861.toNat default),mp Value.string (fun p:OV=>eq p.1) g1868.2.2.2.2.2.2.2.2.2.1 (zipK x1862.fsenders z1870),blk g1868.1 102 [vS x1862.fself,eq g1868.2.1.1,eq g1868.2.2.1.1,eq g1868.2.2.2.1.1,eq g1868.2.2.2.2.1.1,eq g1868.2.2.2.2.2.1.1,eq g1868.2.2.2.2.2.2.1.1,eq g1868.2.2.2.2.2.2.2.1.1,eq g1868.2.2.2.2.2.2.2.2.1.1,eq g1868.2.2.2.2.2.2.2.2.2.1],Ctr.O g1868.2.1 x1862.ftick,Ctr.O g1868.2.2.1 x1862.fstamps,VView.O g1868.2.2.2.1 x1862.fall.fView,Mks.O g1868.2.2.2.2.1 x1862.fall.fMarks,TTab.O g1868.2.2.2.2.2.1 x1862.fall.fTyping,PTab.O g1868.2.2.2.2.2.2.1 x1862.fall.fPresence,DLog.O g1868.2.2.2.2.2.2.2.1 x1862.fall.fLog,SMosOf.O g1868.2.2.2.2.2.2.2.2.1 x1862.fcome,own strK v1858.1 (srtS (a0.fsenders.map (·.1))),own (slK (intK .u8)) v1864.1 x1863]) (F:=F) [3,4,0,1,2,5,6,7,8,9,10,11,12,13] (by kernel_rfl) rfl rfl) ?_
        refine Dv.float ?_ (fun hk_=>?_)
        · refine up_al rfl trivial zc168 (all1 (fun b1875=>perm_exs (L:=[blk b1875 168 [vB false,vS (⟨#[]⟩:ByteArray),vS (⟨#[]⟩:ByteArray),vI 0,eq (.slice none 0 0)],SSnd.O ((mget (zipK x1862.fsenders z1870) ((srtS (a0.fsenders.map (·.1))).getD x1861.toNat default)).getD nilP) ((mget x1862.fsenders ((srtS (a0.fsenders.map (·.1))).getD x1861.toNat default)).getD default),thgB SSnd.O x1862.fsenders z1870 ((srtS (a0.fsenders.map (·.1))).getD x1861.toNat default),mp Value.string (fun p:OV=>eq p.1) g1868.2.2.2.2.2.2.2.2.2.1 (zipK x1862.fsenders z1870),blk g1868.1 102 [vS x1862.fself,eq g1868.2.1.1,eq g1868.2.2.1.1,eq g1868.2.2.2.1.1,eq g1868.2.2.2.2.1.1,eq g1868.2.2.2.2.2.1.1,eq g1868.2.2.2.2.2.2.1.1,eq g1868.2.2.2.2.2.2.2.1.1,eq g1868.2.2.2.2.2.2.2.2.1.1,eq g1868.2.2.2.2.2.2.2.2.2.1],Ctr.O g1868.2.1 x1862.ftick,Ctr.O g1868.2.2.1 x1862.fstamps,VView.O g1868.2.2.2.1 x1862.fall.fView,Mks.O g1868.2.2.2.2.1 x1862.fall.fMarks,TTab.O g1868.2.2.2.2.2.1 x1862.fall.fTyping,PTab.O g1868.2.2.2.2.2.2.1 x1862.fall.fPresence,DLog.O g1868.2.2.2.2.2.2.2.1 x1862.fall.fLog,SMosOf.O g1868.2.2.2.2.2.2.2.2.1 x1862.fcome,own strK v1858.1 (srtS (a0.fsenders.map (·.1))),own (slK (intK .u8)) v1864.1 x1863]) (F:=F) ([blk b1875 168 [vB false,vS (⟨#[]⟩:ByteArray),vS (⟨#[]⟩:ByteArray),vI 0,eq (.slice none 0 0)],SSnd.O ((mget (zipK x1862.fsenders z1870) ((srtS (a0.fsenders.map (·.1))).getD x1861.toNat default)).getD nilP) ((mget x1862.fsenders ((srtS (a0.fsenders.map (·.1))).getD x1861.toNat default)).getD default),thgB SSnd.O x1862.fsenders z1870 ((srtS (a0.fsenders.map (·.1))).getD x1861.toNat default),mp Value.string (fun p:OV=>eq p.1) g1868.2.2.2.2.2.2.2.2.2.1 (zipK x1862.fsenders z1870),Ctr.O g1868.2.2.1 x1862.fstamps,VView.O g1868.2.2.2.1 x1862.fall.fView,Mks.O g1868.2.2.2.2.1 x1862.fall.fMarks,TTab.O g1868.2.2.2.2.2.1 x1862.fall.fTyping,PTab.O g1868.2.2.2.2.2.2.1 x1862.fall.fPresence,DLog.O g1868.2.2.2.2.2.2.2.1 x1862.fall.fLog,SMosOf.O g1868.2.2.2.2.2.2.2.2.1 x1862.fcome,own strK v1858.1 (srtS (a0.fsenders.map (·.1))),own (slK (intK .u8)) v1864.1 x1863]++F) [4,5,0,1,2,3,6,7,8,9,10,11,12,13,14] (by kernel_rfl) rfl rfl) (all1 (fun _=>trivial) (all1 (fun _=>mem_at 4 rfl) (all1 (fun _=>trivial) (all1 (fun _=>trivial) (all1 (fun _=>trivial) (all1 (fun _=>trivial) (all1 (fun _=>mem_at 3 rfl) (all1 (fun _=>trivial) (all1 (fun _=>mem_at 4 rfl) (all1 (fun _=>trivial) (all1 (fun _=>trivial) (all1 (fun _=>trivial) all0))))))))))))) (fun b1875=>?_)
          obtain ⟨t1876,h1877,H⟩:=Gets.call H
          refine Dv.callx (pre:=[SSnd.O ((mget (zipK x1862.fsenders z1870) ((srtS (a0.fsenders.map (·.1))).getD x1861.toNat default)).getD nilP) ((mget x1862.fsenders ((srtS (a0.fsenders.map (·.1))).getD x1861.toNat default)).getD default),VView.O g1868.2.2.2.1 x1862.fall.fView]) (F:=[blk b1875 168 [vB false,vS (⟨#[]⟩:ByteArray),vS (⟨#[]⟩:ByteArray),vI 0,eq (.slice none 0 0)],thgB SSnd.O x1862.fsenders z1870 ((srtS (a0.fsenders.map (·.1))).getD x1861.toNat default),mp Value.string (fun p:OV=>eq p.1) g1868.2.2.2.2.2.2.2.2.2.1 (zipK x1862.fsenders z1870),blk g1868.1 102 [vS x1862.fself,eq g1868.2.1.1,eq g1868.2.2.1.1,eq g1868.2.2.2.1.1,eq g1868.2.2.2.2.1.1,eq g1868.2.2.2.2.2.1.1,eq g1868.2.2.2.2.2.2.1.1,eq g1868.2.2.2.2.2.2.2.1.1,eq g1868.2.2.2.2.2.2.2.2.1.1,eq g1868.2.2.2.2.2.2.2.2.2.1],Ctr.O g1868.2.1 x1862.ftick,Ctr.O g1868.2.2.1 x1862.fstamps,Mks.O g1868.2.2.2.2.1 x1862.fall.fMarks,TTab.O g1868.2.2.2.2.2.1 x1862.fall.fTyping,PTab.O g1868.2.2.2.2.2.2.1 x1862.fall.fPresence,DLog.O g1868.2.2.2.2.2.2.2.1 x1862.fall.fLog,SMosOf.O g1868.2.2.2.2.2.2.2.2.1 x1862.fcome,own strK v1858.1 (srtS (a0.fsenders.map (·.1))),own (slK (intK .u8)) v1864.1 x1863]++F) (fun _:Unit=>[SSnd.O ((mget (zipK x1862.fsenders z1870) ((srtS (a0.fsenders.map (·.1))).getD x1861.toNat default)).getD nilP) t1876.2.2.2,VView.O g1868.2.2.2.1 x1862.fall.fView,blk b1875 168 [vB false,vS (⟨#[]⟩:ByteArray),vS (⟨#[]⟩:ByteArray),vI 0,eq (.slice none 0 0)],thgB SSnd.O x1862.fsenders z1870 ((srtS (a0.fsenders.map (·.1))).getD x1861.toNat default),mp Value.string (fun p:OV=>eq p.1) g1868.2.2.2.2.2.2.2.2.2.1 (zipK x1862.fsenders z1870),blk g1868.1 102 [vS x1862.fself,eq g1868.2.1.1,eq g1868.2.2.1.1,eq g1868.2.2.2.1.1,eq g1868.2.2.2.2.1.1,eq g1868.2.2.2.2.2.1.1,eq g1868.2.2.2.2.2.2.1.1,eq g1868.2.2.2.2.2.2.2.1.1,eq g1868.2.2.2.2.2.2.2.2.1.1,eq g1868.2.2.2.2.2.2.2.2.2.1],Ctr.O g1868.2.1 x1862.ftick,Ctr.O g1868.2.2.1 x1862.fstamps,Mks.O g1868.2.2.2.2.1 x1862.fall.fMarks,TTab.O g1868.2.2.2.2.2.1 x1862.fall.fTyping,PTab.O g1868.2.2.2.2.2.2.1 x1862.fall.fPresence,DLog.O g1868.2.2.2.2.2.2.2.1 x1862.fall.fLog,SMosOf.O g1868.2.2.2.2.2.2.2.2.1 x1862.fcome,own strK v1858.1 (srtS (a0.fsenders.map (·.1))),own (slK (intK .u8)) v1864.1 x1863]++F) rfl trivial cal68 rfl (sender_Sender_Send.c h1877 (p0_:=((mget (zipK x1862.fsenders z1870) ((srtS (a0.fsenders.map (·.1))).getD x1861.toNat default)).getD nilP)) (p1_:=g1868.2.2.2.1)) (perm_to (L:=[blk b1875 168 [vB false,vS (⟨#[]⟩:ByteArray),vS (⟨#[]⟩:ByteArray),vI 0,eq (.slice none 0 0)],SSnd.O ((mget (zipK x1862.fsenders z1870) ((srtS (a0.fsenders.map (·.1))).getD x1861.toNat default)).getD nilP) ((mget x1862.fsenders ((srtS (a0.fsenders.map (·.1))).getD x1861.toNat default)).getD default),thgB SSnd.O x1862.fsenders z1870 ((srtS (a0.fsenders.map (·.1))).getD x1861.toNat default),mp Value.string (fun p:OV=>eq p.1) g1868.2.2.2.2.2.2.2.2.2.1 (zipK x1862.fsenders z1870),blk g1868.1 102 [vS x1862.fself,eq g1868.2.1.1,eq g1868.2.2.1.1,eq g1868.2.2.2.1.1,eq g1868.2.2.2.2.1.1,eq g1868.2.2.2.2.2.1.1,eq g1868.2.2.2.2.2.2.1.1,eq g1868.2.2.2.2.2.2.2.1.1,eq g1868.2.2.2.2.2.2.2.2.1.1,eq g1868.2.2.2.2.2.2.2.2.2.1],Ctr.O g1868.2.1 x1862.ftick,Ctr.O g1868.2.2.1 x1862.fstamps,VView.O g1868.2.2.2.1 x1862.fall.fView,Mks.O g1868.2.2.2.2.1 x1862.fall.fMarks,TTab.O g1868.2.2.2.2.2.1 x1862.fall.fTyping,PTab.O g1868.2.2.2.2.2.2.1 x1862.fall.fPresence,DLog.O g1868.2.2.2.2.2.2.2.1 x1862.fall.fLog,SMosOf.O g1868.2.2.2.2.2.2.2.2.1 x1862.fcome,own strK v1858.1 (srtS (a0.fsenders.map (·.1))),own (slK (intK .u8)) v1864.1 x1863]) (F:=F) [1,7,0,2,3,4,5,6,8,9,10,11,12,13,14] (by kernel_rfl) rfl rfl) rfl (fun _=>pendc (pend_bits (by kernel_rfl))) (fun _ _=>?_)
          refine Dv.mv rfl trivial rfl ?_
          refine Dv.ext rfl trivial rfl rfl ?_
          refine Dv.ext rfl trivial rfl rfl ?_
          refine Dv.ext rfl trivial rfl rfl ?_
          refine sx 2 rfl trivial rfl rfl (cells_agg (Par.K.one _)) sz168 rfl rfl rfl (fun _=>(pend_in (fun _=>trivial) (pend_in (fun _=>trivial) (pend_by (by kernel_rfl) (pend_by (by kernel_rfl) (pend_by (by kernel_rfl) (pend_by (by kernel_rfl) (pend_by (by kernel_rfl) (pend_by (by kernel_rfl) (pend_by (by kernel_rfl) (pend_by (by kernel_rfl) (pend_by (by kernel_rfl) (pend_by (by kernel_rfl) (pend_by (by kernel_rfl) (pend_by (by kernel_rfl) (pend_by (by kernel_rfl) (pend_by (by kernel_rfl) (pend_by (by kernel_rfl) pend_nil)))))))))))))))))) ?_
          refine Dv.asg rfl trivial rfl ?_
          refine Dv.asg rfl trivial rfl ?_
          refine .fin ?_
          refine WP.seq ?_
          refine rg 1 0 ?_
          refine Dv.mv rfl trivial rfl ?_
          refine .fin ?_
          refine WP.cond rfl (fun c1878=>?_) (fun c1878=>?_)
          · have H:=H.ct c1878
            refine WP.seq ?_
            refine rg 7 2 ?_
            refine lds 2 rfl trivial rfl sg168 rfl rfl ?_
            obtain ⟨t1879,h1880,H⟩:=Gets.call H
            refine Dv.callx (pre:=[]) (F:=[SSnd.O ((mget (zipK x1862.fsenders z1870) ((srtS (a0.fsenders.map (·.1))).getD x1861.toNat default)).getD nilP) t1876.2.2.2,VView.O g1868.2.2.2.1 x1862.fall.fView,blk b1875 168 (Par.enc t1876.1),thgB SSnd.O x1862.fsenders z1870 ((srtS (a0.fsenders.map (·.1))).getD x1861.toNat default),mp Value.string (fun p:OV=>eq p.1) g1868.2.2.2.2.2.2.2.2.2.1 (zipK x1862.fsenders z1870),blk g1868.1 102 [vS x1862.fself,eq g1868.2.1.1,eq g1868.2.2.1.1,eq g1868.2.2.2.1.1,eq g1868.2.2.2.2.1.1,eq g1868.2.2.2.2.2.1.1,eq g1868.2.2.2.2.2.2.1.1,eq g1868.2.2.2.2.2.2.2.1.1,eq g1868.2.2.2.2.2.2.2.2.1.1,eq g1868.2.2.2.2.2.2.2.2.2.1],Ctr.O g1868.2.1 x1862.ftick,Ctr.O g1868.2.2.1 x1862.fstamps,Mks.O g1868.2.2.2.2.1 x1862.fall.fMarks,TTab.O g1868.2.2.2.2.2.1 x1862.fall.fTyping,PTab.O g1868.2.2.2.2.2.2.1 x1862.fall.fPresence,DLog.O g1868.2.2.2.2.2.2.2.1 x1862.fall.fLog,SMosOf.O g1868.2.2.2.2.2.2.2.2.1 x1862.fcome,own strK v1858.1 (srtS (a0.fsenders.map (·.1))),own (slK (intK .u8)) v1864.1 x1863]++F) (fun g1881:OV=>[own (intK .u8) g1881.1 t1879.1,SSnd.O ((mget (zipK x1862.fsenders z1870) ((srtS (a0.fsenders.map (·.1))).getD x1861.toNat default)).getD nilP) t1876.2.2.2,VView.O g1868.2.2.2.1 x1862.fall.fView,blk b1875 168 (Par.enc t1876.1),thgB SSnd.O x1862.fsenders z1870 ((srtS (a0.fsenders.map (·.1))).getD x1861.toNat default),mp Value.string (fun p:OV=>eq p.1) g1868.2.2.2.2.2.2.2.2.2.1 (zipK x1862.fsenders z1870),blk g1868.1 102 [vS x1862.fself,eq g1868.2.1.1,eq g1868.2.2.1.1,eq g1868.2.2.2.1.1,eq g1868.2.2.2.2.1.1,eq g1868.2.2.2.2.2.1.1,eq g1868.2.2.2.2.2.2.1.1,eq g1868.2.2.2.2.2.2.2.1.1,eq g1868.2.2.2.2.2.2.2.2.1.1,eq g1868.2.2.2.2.2.2.2.2.2.1],Ctr.O g1868.2.1 x1862.ftick,Ctr.O g1868.2.2.1 x1862.fstamps,Mks.O g1868.2.2.2.2.1 x1862.fall.fMarks,TTab.O g1868.2.2.2.2.2.1 x1862.fall.fTyping,PTab.O g1868.2.2.2.2.2.2.1 x1862.fall.fPresence,DLog.O g1868.2.2.2.2.2.2.2.1 x1862.fall.fLog,SMosOf.O g1868.2.2.2.2.2.2.2.2.1 x1862.fcome,own strK v1858.1 (srtS (a0.fsenders.map (·.1))),own (slK (intK .u8)) v1864.1 x1863]++F) rfl trivial cal69 rfl (parcel_Write.c h1880) (perm_to (L:=[SSnd.O ((mget (zipK x1862.fsenders z1870) ((srtS (a0.fsenders.map (·.1))).getD x1861.toNat default)).getD nilP) t1876.2.2.2,VView.O g1868.2.2.2.1 x1862.fall.fView,blk b1875 168 (Par.enc t1876.1),thgB SSnd.O x1862.fsenders z1870 ((srtS (a0.fsenders.map (·.1))).getD x1861.toNat default),mp Value.string (fun p:OV=>eq p.1) g1868.2.2.2.2.2.2.2.2.2.1 (zipK x1862.fsenders z1870),blk g1868.1 102 [vS x1862.fself,eq g1868.2.1.1,eq g1868.2.2.1.1,eq g1868.2.2.2.1.1,eq g1868.2.2.2.2.1.1,eq g1868.2.2.2.2.2.1.1,eq g1868.2.2.2.2.2.2.1.1,eq g1868.2.2.2.2.2.2.2.1.1,eq g1868.2.2.2.2.2.2.2.2.1.1,eq g1868.2.2.2.2.2.2.2.2.2.1],Ctr.O g1868.2.1 x1862.ftick,Ctr.O g1868.2.2.1 x1862.fstamps,Mks.O g1868.2.2.2.2.1 x1862.fall.fMarks,TTab.O g1868.2.2.2.2.2.1 x1862.fall.fTyping,PTab.O g1868.2.2.2.2.2.2.1 x1862.fall.fPresence,DLog.O g1868.2.2.2.2.2.2.2.1 x1862.fall.fLog,SMosOf.O g1868.2.2.2.2.2.2.2.2.1 x1862.fcome,own strK v1858.1 (srtS (a0.fsenders.map (·.1))),own (slK (intK .u8)) v1864.1 x1863]) (F:=F) [0,1,2,3,4,5,6,7,8,9,10,11,12,13,14] (by kernel_rfl) rfl rfl) rfl nofun (fun g1881 _=>?_)
            refine Dv.mv rfl trivial rfl ?_
            refine Dv.ext rfl trivial rfl rfl ?_
            refine Dv.ext rfl trivial rfl rfl ?_
            refine Dv.asg rfl trivial rfl ?_
            refine Dv.asg rfl trivial rfl ?_
            refine .fin ?_
            refine rg 5 8 ?_
            refine Dv.mv rfl trivial rfl ?_
            refine Dv.mv rfl trivial rfl ?_
            refine Dv.gh (gh_frz (E':=[(0,eq p0_.1),(5,eq v1864.1),(7,vS ((srtS (a0.fsenders.map (·.1))).getD x1861.toNat default)),(8,eq (.pointer (some ⟨b1875,0,none⟩))),(9,vB t1876.2.1),(11,sl (intK .u8) t1879.1),(28,eq v1858.1),(29,vI ((srtS (a0.fsenders.map (·.1))).length:Int)),(30,vI x1861),(31,vB (decide (x1861 < ((srtS (a0.fsenders.map (·.1))).length:Int)))),(52,vB t1876.2.1),(58,eq v1864.1),(59,sl (intK .u8) t1879.1)]) (l':=[SSnd.O ((mget (zipK x1862.fsenders z1870) ((srtS (a0.fsenders.map (·.1))).getD x1861.toNat default)).getD nilP) t1876.2.2.2,VView.O g1868.2.2.2.1 x1862.fall.fView,blk b1875 168 (Par.enc t1876.1),thgB SSnd.O x1862.fsenders z1870 ((srtS (a0.fsenders.map (·.1))).getD x1861.toNat default),mp Value.string (fun p:OV=>eq p.1) g1868.2.2.2.2.2.2.2.2.2.1 (zipK x1862.fsenders z1870),blk g1868.1 102 [vS x1862.fself,eq g1868.2.1.1,eq g1868.2.2.1.1,eq g1868.2.2.2.1.1,eq g1868.2.2.2.2.1.1,eq g1868.2.2.2.2.2.1.1,eq g1868.2.2.2.2.2.2.1.1,eq g1868.2.2.2.2.2.2.2.1.1,eq g1868.2.2.2.2.2.2.2.2.1.1,eq g1868.2.2.2.2.2.2.2.2.2.1],Ctr.O g1868.2.1 x1862.ftick,Ctr.O g1868.2.2.1 x1862.fstamps,Mks.O g1868.2.2.2.2.1 x1862.fall.fMarks,TTab.O g1868.2.2.2.2.2.1 x1862.fall.fTyping,PTab.O g1868.2.2.2.2.2.2.1 x1862.fall.fPresence,DLog.O g1868.2.2.2.2.2.2.2.1 x1862.fall.fLog,SMosOf.O g1868.2.2.2.2.2.2.2.2.1 x1862.fcome,own strK v1858.1 (srtS (a0.fsenders.map (·.1))),own (slK (intK .u8)) v1864.1 x1863]++F) 0 rfl (cve_cons rfl cv_id (cve_cons rfl cv_id (cve_cons rfl cv_id (cve_cons rfl cv_id (cve_cons rfl cv_id (cve_cons rfl cv_eq (cve_cons rfl cv_id (cve_cons rfl cv_id (cve_cons rfl cv_id (cve_cons rfl cv_id (cve_cons rfl cv_id (cve_cons rfl cv_id (cve_cons rfl cv_eq cve_nil))))))))))))) (all2_app (.cons cva_id (.cons cva_id (.cons cva_id (.cons cva_id (.cons cva_id (.cons cva_id (.cons cva_id (.cons cva_id (.cons cva_id (.cons cva_id (.cons cva_id (.cons cva_id (.cons cva_id (.cons cva_id (.cons cva_id .nil))))))))))))))) fun _=>cva_id)) (fun _ _=>?_)
            refine Dv.lit (slK (intK .u8)) ([t1879.1]:List (List Int)) (css:=[[sl (intK .u8) t1879.1]]) rfl trivial Tryz.underlying109 Tryz.underlying41 c41 z41 rfl (by decide) (by decide) rfl ⟨(cells_one one_sl),trivial⟩ rfl rfl rfl ?_
            obtain ⟨g1882,H⟩:=Gets.grd H
            refine Dv.appx (Kd:=(slK (intK .u8))) (jj:=14) (ys:=([t1879.1]:List (List Int))) (fun v1883:OV=>[SSnd.O ((mget (zipK x1862.fsenders z1870) ((srtS (a0.fsenders.map (·.1))).getD x1861.toNat default)).getD nilP) t1876.2.2.2,VView.O g1868.2.2.2.1 x1862.fall.fView,blk b1875 168 (Par.enc t1876.1),thgB SSnd.O x1862.fsenders z1870 ((srtS (a0.fsenders.map (·.1))).getD x1861.toNat default),mp Value.string (fun p:OV=>eq p.1) g1868.2.2.2.2.2.2.2.2.2.1 (zipK x1862.fsenders z1870),blk g1868.1 102 [vS x1862.fself,eq g1868.2.1.1,eq g1868.2.2.1.1,eq g1868.2.2.2.1.1,eq g1868.2.2.2.2.1.1,eq g1868.2.2.2.2.2.1.1,eq g1868.2.2.2.2.2.2.1.1,eq g1868.2.2.2.2.2.2.2.1.1,eq g1868.2.2.2.2.2.2.2.2.1.1,eq g1868.2.2.2.2.2.2.2.2.2.1],Ctr.O g1868.2.1 x1862.ftick,Ctr.O g1868.2.2.1 x1862.fstamps,Mks.O g1868.2.2.2.2.1 x1862.fall.fMarks,TTab.O g1868.2.2.2.2.2.1 x1862.fall.fTyping,PTab.O g1868.2.2.2.2.2.2.1 x1862.fall.fPresence,DLog.O g1868.2.2.2.2.2.2.2.1 x1862.fall.fLog,SMosOf.O g1868.2.2.2.2.2.2.2.2.1 x1862.fcome,own strK v1858.1 (srtS (a0.fsenders.map (·.1))),own (slK (intK .u8)) v1883.1 (x1863++([t1879.1]:List (List Int)))]++F) rfl trivial rfl rfl rfl src_sl Tryz.underlying109 (.inr ⟨_,Tryz.underlying109⟩) inf41 rfl (by decide) g1882 rfl nofun (fun v1883=>?_)
            refine Dv.asg rfl trivial rfl ?_
            refine .fin ?_
            refine rg 2 0 ?_
            refine Dv.bin rfl trivial rfl rfl (fun _=>run_add) ?_
            refine Dv.mv rfl trivial rfl ?_
            refine .fin ?_
            refine Dn.gh (l':=fun _:Unit=>[thg SSnd.O (mput x1862.fsenders ((srtS (a0.fsenders.map (·.1))).getD x1861.toNat default) t1876.2.2.2) z1870,VView.O g1868.2.2.2.1 x1862.fall.fView,blk b1875 168 (Par.enc t1876.1),mp Value.string (fun p:OV=>eq p.1) g1868.2.2.2.2.2.2.2.2.2.1 (zipK x1862.fsenders z1870),blk g1868.1 102 [vS x1862.fself,eq g1868.2.1.1,eq g1868.2.2.1.1,eq g1868.2.2.2.1.1,eq g1868.2.2.2.2.1.1,eq g1868.2.2.2.2.2.1.1,eq g1868.2.2.2.2.2.2.1.1,eq g1868.2.2.2.2.2.2.2.1.1,eq g1868.2.2.2.2.2.2.2.2.1.1,eq g1868.2.2.2.2.2.2.2.2.2.1],Ctr.O g1868.2.1 x1862.ftick,Ctr.O g1868.2.2.1 x1862.fstamps,Mks.O g1868.2.2.2.2.1 x1862.fall.fMarks,TTab.O g1868.2.2.2.2.2.1 x1862.fall.fTyping,PTab.O g1868.2.2.2.2.2.2.1 x1862.fall.fPresence,DLog.O g1868.2.2.2.2.2.2.2.1 x1862.fall.fLog,SMosOf.O g1868.2.2.2.2.2.2.2.2.1 x1862.fcome,own strK v1858.1 (srtS (a0.fsenders.map (·.1))),own (slK (intK .u8)) v1883.1 (x1863++([t1879.1]:List (List Int)))]++F) (gh_of (mpo_unf h1871 rfl g1872 (perm_to (L:=[SSnd.O ((mget (zipK x1862.fsenders z1870) ((srtS (a0.fsenders.map (·.1))).getD x1861.toNat default)).getD nilP) t1876.2.2.2,VView.O g1868.2.2.2.1 x1862.fall.fView,blk b1875 168 (Par.enc t1876.1),thgB SSnd.O x1862.fsenders z1870 ((srtS (a0.fsenders.map (·.1))).getD x1861.toNat default),mp Value.string (fun p:OV=>eq p.1) g1868.2.2.2.2.2.2.2.2.2.1 (zipK x1862.fsenders z1870),blk g1868.1 102 [vS x1862.fself,eq g1868.2.1.1,eq g1868.2.2.1.1,eq g1868.2.2.2.1.1,eq g1868.2.2.2.2.1.1,eq g1868.2.2.2.2.2.1.1,eq g1868.2.2.2.2.2.2.1.1,eq g1868.2.2.2.2.2.2.2.1.1,eq g1868.2.2.2.2.2.2.2.2.1.1,eq g1868.2.2.2.2.2.2.2.2.2.1],Ctr.O g1868.2.1 x1862.ftick,Ctr.O g1868.2.2.1 x1862.fstamps,Mks.O g1868.2.2.2.2.1 x1862.fall.fMarks,TTab.O g1868.2.2.2.2.2.1 x1862.fall.fTyping,PTab.O g1868.2.2.2.2.2.2.1 x1862.fall.fPresence,DLog.O g1868.2.2.2.2.2.2.2.1 x1862.fall.fLog,SMosOf.O g1868.2.2.2.2.2.2.2.2.1 x1862.fcome,own strK v1858.1 (srtS (a0.fsenders.map (·.1))),own (slK (intK .u8)) v1883.1 (x1863++([t1879.1]:List (List Int)))]) (F:=F) [0,3,1,2,4,5,6,7,8,9,10,11,12,13,14] (by kernel_rfl) rfl rfl))) (fun _ h1884=>?_)
            refine Dn.gh (l':=fun _:Unit=>[mpo Value.string SSnd.O g1868.2.2.2.2.2.2.2.2.2.1 (mput x1862.fsenders ((srtS (a0.fsenders.map (·.1))).getD x1861.toNat default) t1876.2.2.2),VView.O g1868.2.2.2.1 x1862.fall.fView,blk b1875 168 (Par.enc t1876.1),blk g1868.1 102 [vS x1862.fself,eq g1868.2.1.1,eq g1868.2.2.1.1,eq g1868.2.2.2.1.1,eq g1868.2.2.2.2.1.1,eq g1868.2.2.2.2.2.1.1,eq g1868.2.2.2.2.2.2.1.1,eq g1868.2.2.2.2.2.2.2.1.1,eq g1868.2.2.2.2.2.2.2.2.1.1,eq g1868.2.2.2.2.2.2.2.2.2.1],Ctr.O g1868.2.1 x1862.ftick,Ctr.O g1868.2.2.1 x1862.fstamps,Mks.O g1868.2.2.2.2.1 x1862.fall.fMarks,TTab.O g1868.2.2.2.2.2.1 x1862.fall.fTyping,PTab.O g1868.2.2.2.2.2.2.1 x1862.fall.fPresence,DLog.O g1868.2.2.2.2.2.2.2.1 x1862.fall.fLog,SMosOf.O g1868.2.2.2.2.2.2.2.2.1 x1862.fcome,own strK v1858.1 (srtS (a0.fsenders.map (·.1))),own (slK (intK .u8)) v1883.1 (x1863++([t1879.1]:List (List Int)))]++F) (gh_of (mpo_shut h1884 (zipK_put' rfl g1872) (perm_to (L:=[thg SSnd.O (mput x1862.fsenders ((srtS (a0.fsenders.map (·.1))).getD x1861.toNat default) t1876.2.2.2) z1870,VView.O g1868.2.2.2.1 x1862.fall.fView,blk b1875 168 (Par.enc t1876.1),mp Value.string (fun p:OV=>eq p.1) g1868.2.2.2.2.2.2.2.2.2.1 (zipK x1862.fsenders z1870),blk g1868.1 102 [vS x1862.fself,eq g1868.2.1.1,eq g1868.2.2.1.1,eq g1868.2.2.2.1.1,eq g1868.2.2.2.2.1.1,eq g1868.2.2.2.2.2.1.1,eq g1868.2.2.2.2.2.2.1.1,eq g1868.2.2.2.2.2.2.2.1.1,eq g1868.2.2.2.2.2.2.2.2.1.1,eq g1868.2.2.2.2.2.2.2.2.2.1],Ctr.O g1868.2.1 x1862.ftick,Ctr.O g1868.2.2.1 x1862.fstamps,Mks.O g1868.2.2.2.2.1 x1862.fall.fMarks,TTab.O g1868.2.2.2.2.2.1 x1862.fall.fTyping,PTab.O g1868.2.2.2.2.2.2.1 x1862.fall.fPresence,DLog.O g1868.2.2.2.2.2.2.2.1 x1862.fall.fLog,SMosOf.O g1868.2.2.2.2.2.2.2.2.1 x1862.fcome,own strK v1858.1 (srtS (a0.fsenders.map (·.1))),own (slK (intK .u8)) v1883.1 (x1863++([t1879.1]:List (List Int)))]) (F:=F) [3,0,1,2,4,5,6,7,8,9,10,11,12,13] (by kernel_rfl) rfl rfl))) (fun _ _=>?_)
            refine Dn.gh (l':=fun _:Unit=>[SSelTicStaAllComSen.O p0_ (⟨x1862.fself,x1862.ftick,x1862.fstamps,x1862.fall,x1862.fcome,mput x1862.fsenders ((srtS (a0.fsenders.map (·.1))).getD x1861.toNat default) t1876.2.2.2⟩:SSelTicStaAllComSen),blk b1875 168 (Par.enc t1876.1),own strK v1858.1 (srtS (a0.fsenders.map (·.1))),own (slK (intK .u8)) v1883.1 (x1863++([t1879.1]:List (List Int)))]++F) (gh_of (SSelTicStaAllComSen.shut (p:=p0_) (m:=(⟨x1862.fself,x1862.ftick,x1862.fstamps,x1862.fall,x1862.fcome,mput x1862.fsenders ((srtS (a0.fsenders.map (·.1))).getD x1861.toNat default) t1876.2.2.2⟩:SSelTicStaAllComSen)) (r:=[blk b1875 168 (Par.enc t1876.1),own strK v1858.1 (srtS (a0.fsenders.map (·.1))),own (slK (intK .u8)) v1883.1 (x1863++([t1879.1]:List (List Int)))]++F) (g1868.1,g1868.2.1,g1868.2.2.1,g1868.2.2.2.1,g1868.2.2.2.2.1,g1868.2.2.2.2.2.1,g1868.2.2.2.2.2.2.1,g1868.2.2.2.2.2.2.2.1,g1868.2.2.2.2.2.2.2.2.1,g1868.2.2.2.2.2.2.2.2.2) h1869 (perm_to (L:=[mpo Value.string SSnd.O g1868.2.2.2.2.2.2.2.2.2.1 (mput x1862.fsenders ((srtS (a0.fsenders.map (·.1))).getD x1861.toNat default) t1876.2.2.2),VView.O g1868.2.2.2.1 x1862.fall.fView,blk b1875 168 (Par.enc t1876.1),blk g1868.1 102 [vS x1862.fself,eq g1868.2.1.1,eq g1868.2.2.1.1,eq g1868.2.2.2.1.1,eq g1868.2.2.2.2.1.1,eq g1868.2.2.2.2.2.1.1,eq g1868.2.2.2.2.2.2.1.1,eq g1868.2.2.2.2.2.2.2.1.1,eq g1868.2.2.2.2.2.2.2.2.1.1,eq g1868.2.2.2.2.2.2.2.2.2.1],Ctr.O g1868.2.1 x1862.ftick,Ctr.O g1868.2.2.1 x1862.fstamps,Mks.O g1868.2.2.2.2.1 x1862.fall.fMarks,TTab.O g1868.2.2.2.2.2.1 x1862.fall.fTyping,PTab.O g1868.2.2.2.2.2.2.1 x1862.fall.fPresence,DLog.O g1868.2.2.2.2.2.2.2.1 x1862.fall.fLog,SMosOf.O g1868.2.2.2.2.2.2.2.2.1 x1862.fcome,own strK v1858.1 (srtS (a0.fsenders.map (·.1))),own (slK (intK .u8)) v1883.1 (x1863++([t1879.1]:List (List Int)))]) (F:=F) [3,4,5,1,6,7,8,9,10,0,2,11,12] (by kernel_rfl) rfl rfl))) (fun _ _=>?_)
            refine Dn.gh (l':=fun _:Unit=>[own strK v1858.1 (srtS (a0.fsenders.map (·.1))),SSelTicStaAllComSen.O p0_ (⟨x1862.fself,x1862.ftick,x1862.fstamps,x1862.fall,x1862.fcome,mput x1862.fsenders ((srtS (a0.fsenders.map (·.1))).getD x1861.toNat default) t1876.2.2.2⟩:SSelTicStaAllComSen),own (slK (intK .u8)) v1883.1 (x1863++([t1879.1]:List (List Int)))]++F) (gh_of (st_selg (L:=[SSelTicStaAllComSen.O p0_ (⟨x1862.fself,x1862.ftick,x1862.fstamps,x1862.fall,x1862.fcome,mput x1862.fsenders ((srtS (a0.fsenders.map (·.1))).getD x1861.toNat default) t1876.2.2.2⟩:SSelTicStaAllComSen),blk b1875 168 (Par.enc t1876.1),own strK v1858.1 (srtS (a0.fsenders.map (·.1))),own (slK (intK .u8)) v1883.1 (x1863++([t1879.1]:List (List Int)))]) (F:=F) [1,2,0,3] 1 rfl rfl rfl)) (fun _ _=>?_)
            exact Back.mk j1886 (w64 (x1861 + 1),(⟨x1862.fself,x1862.ftick,x1862.fstamps,x1862.fall,x1862.fcome,mput x1862.fsenders ((srtS (a0.fsenders.map (·.1))).getD x1861.toNat default) t1876.2.2.2⟩:SSelTicStaAllComSen),x1863++([t1879.1]:List (List Int)),v1883) (Nat.lt_succ_self _) H (weak_cons rfl (weak_cons rfl (weak_cons rfl (weak_cons rfl (weak_cons rfl weak_nil))))) (List.Perm.refl _)
          · have H:=H.cf c1878
            refine WP.skip ?_
            refine rg 2 0 ?_
            refine Dv.bin rfl trivial rfl rfl (fun _=>run_add) ?_
            refine Dv.mv rfl trivial rfl ?_
            refine .fin ?_
            refine Dn.gh (l':=fun _:Unit=>[thg SSnd.O (mput x1862.fsenders ((srtS (a0.fsenders.map (·.1))).getD x1861.toNat default) t1876.2.2.2) z1870,VView.O g1868.2.2.2.1 x1862.fall.fView,blk b1875 168 (Par.enc t1876.1),mp Value.string (fun p:OV=>eq p.1) g1868.2.2.2.2.2.2.2.2.2.1 (zipK x1862.fsenders z1870),blk g1868.1 102 [vS x1862.fself,eq g1868.2.1.1,eq g1868.2.2.1.1,eq g1868.2.2.2.1.1,eq g1868.2.2.2.2.1.1,eq g1868.2.2.2.2.2.1.1,eq g1868.2.2.2.2.2.2.1.1,eq g1868.2.2.2.2.2.2.2.1.1,eq g1868.2.2.2.2.2.2.2.2.1.1,eq g1868.2.2.2.2.2.2.2.2.2.1],Ctr.O g1868.2.1 x1862.ftick,Ctr.O g1868.2.2.1 x1862.fstamps,Mks.O g1868.2.2.2.2.1 x1862.fall.fMarks,TTab.O g1868.2.2.2.2.2.1 x1862.fall.fTyping,PTab.O g1868.2.2.2.2.2.2.1 x1862.fall.fPresence,DLog.O g1868.2.2.2.2.2.2.2.1 x1862.fall.fLog,SMosOf.O g1868.2.2.2.2.2.2.2.2.1 x1862.fcome,own strK v1858.1 (srtS (a0.fsenders.map (·.1))),own (slK (intK .u8)) v1864.1 x1863]++F) (gh_of (mpo_unf h1871 rfl g1872 (perm_to (L:=[SSnd.O ((mget (zipK x1862.fsenders z1870) ((srtS (a0.fsenders.map (·.1))).getD x1861.toNat default)).getD nilP) t1876.2.2.2,VView.O g1868.2.2.2.1 x1862.fall.fView,blk b1875 168 (Par.enc t1876.1),thgB SSnd.O x1862.fsenders z1870 ((srtS (a0.fsenders.map (·.1))).getD x1861.toNat default),mp Value.string (fun p:OV=>eq p.1) g1868.2.2.2.2.2.2.2.2.2.1 (zipK x1862.fsenders z1870),blk g1868.1 102 [vS x1862.fself,eq g1868.2.1.1,eq g1868.2.2.1.1,eq g1868.2.2.2.1.1,eq g1868.2.2.2.2.1.1,eq g1868.2.2.2.2.2.1.1,eq g1868.2.2.2.2.2.2.1.1,eq g1868.2.2.2.2.2.2.2.1.1,eq g1868.2.2.2.2.2.2.2.2.1.1,eq g1868.2.2.2.2.2.2.2.2.2.1],Ctr.O g1868.2.1 x1862.ftick,Ctr.O g1868.2.2.1 x1862.fstamps,Mks.O g1868.2.2.2.2.1 x1862.fall.fMarks,TTab.O g1868.2.2.2.2.2.1 x1862.fall.fTyping,PTab.O g1868.2.2.2.2.2.2.1 x1862.fall.fPresence,DLog.O g1868.2.2.2.2.2.2.2.1 x1862.fall.fLog,SMosOf.O g1868.2.2.2.2.2.2.2.2.1 x1862.fcome,own strK v1858.1 (srtS (a0.fsenders.map (·.1))),own (slK (intK .u8)) v1864.1 x1863]) (F:=F) [0,3,1,2,4,5,6,7,8,9,10,11,12,13,14] (by kernel_rfl) rfl rfl))) (fun _ h1885=>?_)
            refine Dn.gh (l':=fun _:Unit=>[mpo Value.string SSnd.O g1868.2.2.2.2.2.2.2.2.2.1 (mput x1862.fsenders ((srtS (a0.fsenders.map (·.1))).getD x1861.toNat default) t1876.2.2.2),VView.O g1868.2.2.2.1 x1862.fall.fView,blk b1875 168 (Par.enc t1876.1),blk g1868.1 102 [vS x1862.fself,eq g1868.2.1.1,eq g1868.2.2.1.1,eq g1868.2.2.2.1.1,eq g1868.2.2.2.2.1.1,eq g1868.2.2.2.2.2.1.1,eq g1868.2.2.2.2.2.2.1.1,eq g1868.2.2.2.2.2.2.2.1.1,eq g1868.2.2.2.2.2.2.2.2.1.1,eq g1868.2.2.2.2.2.2.2.2.2.1],Ctr.O g1868.2.1 x1862.ftick,Ctr.O g1868.2.2.1 x1862.fstamps,Mks.O g1868.2.2.2.2.1 x1862.fall.fMarks,TTab.O g1868.2.2.2.2.2.1 x1862.fall.fTyping,PTab.O g1868.2.2.2.2.2.2.1 x1862.fall.fPresence,DLog.O g1868.2.2.2.2.2.2.2.1 x1862.fall.fLog,SMosOf.O g1868.2.2.2.2.2.2.2.2.1 x1862.fcome,own strK v1858.1 (srtS (a0.fsenders.map (·.1))),own (slK (intK .u8)) v1864.1 x1863]++F) (gh_of (mpo_shut h1885 (zipK_put' rfl g1872) (perm_to (L:=[thg SSnd.O (mput x1862.fsenders ((srtS (a0.fsenders.map (·.1))).getD x1861.toNat default) t1876.2.2.2) z1870,VView.O g1868.2.2.2.1 x1862.fall.fView,blk b1875 168 (Par.enc t1876.1),mp Value.string (fun p:OV=>eq p.1) g1868.2.2.2.2.2.2.2.2.2.1 (zipK x1862.fsenders z1870),blk g1868.1 102 [vS x1862.fself,eq g1868.2.1.1,eq g1868.2.2.1.1,eq g1868.2.2.2.1.1,eq g1868.2.2.2.2.1.1,eq g1868.2.2.2.2.2.1.1,eq g1868.2.2.2.2.2.2.1.1,eq g1868.2.2.2.2.2.2.2.1.1,eq g1868.2.2.2.2.2.2.2.2.1.1,eq g1868.2.2.2.2.2.2.2.2.2.1],Ctr.O g1868.2.1 x1862.ftick,Ctr.O g1868.2.2.1 x1862.fstamps,Mks.O g1868.2.2.2.2.1 x1862.fall.fMarks,TTab.O g1868.2.2.2.2.2.1 x1862.fall.fTyping,PTab.O g1868.2.2.2.2.2.2.1 x1862.fall.fPresence,DLog.O g1868.2.2.2.2.2.2.2.1 x1862.fall.fLog,SMosOf.O g1868.2.2.2.2.2.2.2.2.1 x1862.fcome,own strK v1858.1 (srtS (a0.fsenders.map (·.1))),own (slK (intK .u8)) v1864.1 x1863]) (F:=F) [3,0,1,2,4,5,6,7,8,9,10,11,12,13] (by kernel_rfl) rfl rfl))) (fun _ _=>?_)
            refine Dn.gh (l':=fun _:Unit=>[SSelTicStaAllComSen.O p0_ (⟨x1862.fself,x1862.ftick,x1862.fstamps,x1862.fall,x1862.fcome,mput x1862.fsenders ((srtS (a0.fsenders.map (·.1))).getD x1861.toNat default) t1876.2.2.2⟩:SSelTicStaAllComSen),blk b1875 168 (Par.enc t1876.1),own strK v1858.1 (srtS (a0.fsenders.map (·.1))),own (slK (intK .u8)) v1864.1 x1863]++F) (gh_of (SSelTicStaAllComSen.shut (p:=p0_) (m:=(⟨x1862.fself,x1862.ftick,x1862.fstamps,x1862.fall,x1862.fcome,mput x1862.fsenders ((srtS (a0.fsenders.map (·.1))).getD x1861.toNat default) t1876.2.2.2⟩:SSelTicStaAllComSen)) (r:=[blk b1875 168 (Par.enc t1876.1),own strK v1858.1 (srtS (a0.fsenders.map (·.1))),own (slK (intK .u8)) v1864.1 x1863]++F) (g1868.1,g1868.2.1,g1868.2.2.1,g1868.2.2.2.1,g1868.2.2.2.2.1,g1868.2.2.2.2.2.1,g1868.2.2.2.2.2.2.1,g1868.2.2.2.2.2.2.2.1,g1868.2.2.2.2.2.2.2.2.1,g1868.2.2.2.2.2.2.2.2.2) h1869 (perm_to (L:=[mpo Value.string SSnd.O g1868.2.2.2.2.2.2.2.2.2.1 (mput x1862.fsenders ((srtS (a0.fsenders.map (·.1))).getD x1861.toNat default) t1876.2.2.2),VView.O g1868.2.2.2.1 x1862.fall.fView,blk b1875 168 (Par.enc t1876.1),blk g1868.1 102 [vS x1862.fself,eq g1868.2.1.1,eq g1868.2.2.1.1,eq g1868.2.2.2.1.1,eq g1868.2.2.2.2.1.1,eq g1868.2.2.2.2.2.1.1,eq g1868.2.2.2.2.2.2.1.1,eq g1868.2.2.2.2.2.2.2.1.1,eq g1868.2.2.2.2.2.2.2.2.1.1,eq g1868.2.2.2.2.2.2.2.2.2.1],Ctr.O g1868.2.1 x1862.ftick,Ctr.O g1868.2.2.1 x1862.fstamps,Mks.O g1868.2.2.2.2.1 x1862.fall.fMarks,TTab.O g1868.2.2.2.2.2.1 x1862.fall.fTyping,PTab.O g1868.2.2.2.2.2.2.1 x1862.fall.fPresence,DLog.O g1868.2.2.2.2.2.2.2.1 x1862.fall.fLog,SMosOf.O g1868.2.2.2.2.2.2.2.2.1 x1862.fcome,own strK v1858.1 (srtS (a0.fsenders.map (·.1))),own (slK (intK .u8)) v1864.1 x1863]) (F:=F) [3,4,5,1,6,7,8,9,10,0,2,11,12] (by kernel_rfl) rfl rfl))) (fun _ _=>?_)
            refine Dn.gh (l':=fun _:Unit=>[own strK v1858.1 (srtS (a0.fsenders.map (·.1))),SSelTicStaAllComSen.O p0_ (⟨x1862.fself,x1862.ftick,x1862.fstamps,x1862.fall,x1862.fcome,mput x1862.fsenders ((srtS (a0.fsenders.map (·.1))).getD x1861.toNat default) t1876.2.2.2⟩:SSelTicStaAllComSen),own (slK (intK .u8)) v1864.1 x1863]++F) (gh_of (st_selg (L:=[SSelTicStaAllComSen.O p0_ (⟨x1862.fself,x1862.ftick,x1862.fstamps,x1862.fall,x1862.fcome,mput x1862.fsenders ((srtS (a0.fsenders.map (·.1))).getD x1861.toNat default) t1876.2.2.2⟩:SSelTicStaAllComSen),blk b1875 168 (Par.enc t1876.1),own strK v1858.1 (srtS (a0.fsenders.map (·.1))),own (slK (intK .u8)) v1864.1 x1863]) (F:=F) [1,2,0,3] 1 rfl rfl rfl)) (fun _ _=>?_)
            exact Back.mk j1886 (w64 (x1861 + 1),(⟨x1862.fself,x1862.ftick,x1862.fstamps,x1862.fall,x1862.fcome,mput x1862.fsenders ((srtS (a0.fsenders.map (·.1))).getD x1861.toNat default) t1876.2.2.2⟩:SSelTicStaAllComSen),x1863,v1864) (Nat.lt_succ_self _) H (weak_cons rfl (weak_cons rfl (weak_cons rfl (weak_cons rfl (weak_cons rfl weak_nil))))) (List.Perm.refl _)
        · obtain ⟨t1875,h1876,H⟩:=Gets.call H
          refine Dv.callx (pre:=[SSnd.O ((mget (zipK x1862.fsenders z1870) ((srtS (a0.fsenders.map (·.1))).getD x1861.toNat default)).getD nilP) ((mget x1862.fsenders ((srtS (a0.fsenders.map (·.1))).getD x1861.toNat default)).getD default),VView.O g1868.2.2.2.1 x1862.fall.fView]) (F:=[thgB SSnd.O x1862.fsenders z1870 ((srtS (a0.fsenders.map (·.1))).getD x1861.toNat default),mp Value.string (fun p:OV=>eq p.1) g1868.2.2.2.2.2.2.2.2.2.1 (zipK x1862.fsenders z1870),blk g1868.1 102 [vS x1862.fself,eq g1868.2.1.1,eq g1868.2.2.1.1,eq g1868.2.2.2.1.1,eq g1868.2.2.2.2.1.1,eq g1868.2.2.2.2.2.1.1,eq g1868.2.2.2.2.2.2.1.1,eq g1868.2.2.2.2.2.2.2.1.1,eq g1868.2.2.2.2.2.2.2.2.1.1,eq g1868.2.2.2.2.2.2.2.2.2.1],Ctr.O g1868.2.1 x1862.ftick,Ctr.O g1868.2.2.1 x1862.fstamps,Mks.O g1868.2.2.2.2.1 x1862.fall.fMarks,TTab.O g1868.2.2.2.2.2.1 x1862.fall.fTyping,PTab.O g1868.2.2.2.2.2.2.1 x1862.fall.fPresence,DLog.O g1868.2.2.2.2.2.2.2.1 x1862.fall.fLog,SMosOf.O g1868.2.2.2.2.2.2.2.2.1 x1862.fcome,own strK v1858.1 (srtS (a0.fsenders.map (·.1))),own (slK (intK .u8)) v1864.1 x1863]++F) (fun _:Unit=>[SSnd.O ((mget (zipK x1862.fsenders z1870) ((srtS (a0.fsenders.map (·.1))).getD x1861.toNat default)).getD nilP) t1875.2.2.2,VView.O g1868.2.2.2.1 x1862.fall.fView,thgB SSnd.O x1862.fsenders z1870 ((srtS (a0.fsenders.map (·.1))).getD x1861.toNat default),mp Value.string (fun p:OV=>eq p.1) g1868.2.2.2.2.2.2.2.2.2.1 (zipK x1862.fsenders z1870),blk g1868.1 102 [vS x1862.fself,eq g1868.2.1.1,eq g1868.2.2.1.1,eq g1868.2.2.2.1.1,eq g1868.2.2.2.2.1.1,eq g1868.2.2.2.2.2.1.1,eq g1868.2.2.2.2.2.2.1.1,eq g1868.2.2.2.2.2.2.2.1.1,eq g1868.2.2.2.2.2.2.2.2.1.1,eq g1868.2.2.2.2.2.2.2.2.2.1],Ctr.O g1868.2.1 x1862.ftick,Ctr.O g1868.2.2.1 x1862.fstamps,Mks.O g1868.2.2.2.2.1 x1862.fall.fMarks,TTab.O g1868.2.2.2.2.2.1 x1862.fall.fTyping,PTab.O g1868.2.2.2.2.2.2.1 x1862.fall.fPresence,DLog.O g1868.2.2.2.2.2.2.2.1 x1862.fall.fLog,SMosOf.O g1868.2.2.2.2.2.2.2.2.1 x1862.fcome,own strK v1858.1 (srtS (a0.fsenders.map (·.1))),own (slK (intK .u8)) v1864.1 x1863]++F) rfl trivial cal68 rfl (sender_Sender_Send.c h1876 (p0_:=((mget (zipK x1862.fsenders z1870) ((srtS (a0.fsenders.map (·.1))).getD x1861.toNat default)).getD nilP)) (p1_:=g1868.2.2.2.1)) (perm_to (L:=[SSnd.O ((mget (zipK x1862.fsenders z1870) ((srtS (a0.fsenders.map (·.1))).getD x1861.toNat default)).getD nilP) ((mget x1862.fsenders ((srtS (a0.fsenders.map (·.1))).getD x1861.toNat default)).getD default),thgB SSnd.O x1862.fsenders z1870 ((srtS (a0.fsenders.map (·.1))).getD x1861.toNat default),mp Value.string (fun p:OV=>eq p.1) g1868.2.2.2.2.2.2.2.2.2.1 (zipK x1862.fsenders z1870),blk g1868.1 102 [vS x1862.fself,eq g1868.2.1.1,eq g1868.2.2.1.1,eq g1868.2.2.2.1.1,eq g1868.2.2.2.2.1.1,eq g1868.2.2.2.2.2.1.1,eq g1868.2.2.2.2.2.2.1.1,eq g1868.2.2.2.2.2.2.2.1.1,eq g1868.2.2.2.2.2.2.2.2.1.1,eq g1868.2.2.2.2.2.2.2.2.2.1],Ctr.O g1868.2.1 x1862.ftick,Ctr.O g1868.2.2.1 x1862.fstamps,VView.O g1868.2.2.2.1 x1862.fall.fView,Mks.O g1868.2.2.2.2.1 x1862.fall.fMarks,TTab.O g1868.2.2.2.2.2.1 x1862.fall.fTyping,PTab.O g1868.2.2.2.2.2.2.1 x1862.fall.fPresence,DLog.O g1868.2.2.2.2.2.2.2.1 x1862.fall.fLog,SMosOf.O g1868.2.2.2.2.2.2.2.2.1 x1862.fcome,own strK v1858.1 (srtS (a0.fsenders.map (·.1))),own (slK (intK .u8)) v1864.1 x1863]) (F:=F) [0,6,1,2,3,4,5,7,8,9,10,11,12,13] (by kernel_rfl) rfl rfl) rfl (fun _=>pendc (pend_bits (by kernel_rfl))) (fun _ _=>?_)
          refine Dv.mv rfl trivial rfl ?_
          refine Dv.ext rfl trivial rfl rfl ?_
          refine Dv.ext rfl trivial rfl rfl ?_
          refine Dv.ext rfl trivial rfl rfl ?_
          refine .fin ?_
          refine up_al rfl trivial zc168 (all1 (fun _=>trivial) (all1 (fun _=>trivial) (all1 (fun _=>trivial) (all1 (fun _=>trivial) (allp (by kernel_rfl) (allp (by kernel_rfl) (allp (by kernel_rfl) (allp (by kernel_rfl) (allp (by kernel_rfl) (allp (by kernel_rfl) (allp (by kernel_rfl) (allp (by kernel_rfl) (allp (by kernel_rfl) (allp (by kernel_rfl) (allp (by kernel_rfl) (allp (by kernel_rfl) (allp (by kernel_rfl) all0))))))))))))))))) (fun b1877=>?_)
          refine sx 0 rfl trivial rfl rfl (cells_agg (Par.K.one _)) sz168 rfl rfl rfl (fun _=>(pend_in (fun _=>trivial) (pend_in (fun _=>trivial) (pend_by (by kernel_rfl) (pend_by (by kernel_rfl) (pend_by (by kernel_rfl) (pend_by (by kernel_rfl) (pend_by (by kernel_rfl) (pend_by (by kernel_rfl) (pend_by (by kernel_rfl) (pend_by (by kernel_rfl) (pend_by (by kernel_rfl) (pend_by (by kernel_rfl) (pend_by (by kernel_rfl) (pend_by (by kernel_rfl) (pend_by (by kernel_rfl) (pend_by (by kernel_rfl) (pend_by (by kernel_rfl) pend_nil)))))))))))))))))) ?_
          refine Dv.asg rfl trivial rfl ?_
          refine Dv.asg rfl trivial rfl ?_
          refine .fin ?_
          refine WP.seq ?_
          refine rg 1 0 ?_
          refine Dv.mv rfl trivial rfl ?_
          refine .fin ?_
          refine WP.cond rfl (fun c1878=>?_) (fun c1878=>?_)
          · have H:=H.ct c1878
            refine WP.seq ?_
            refine rg 7 2 ?_
            refine lds 0 rfl trivial rfl sg168 rfl rfl ?_
            obtain ⟨t1879,h1880,H⟩:=Gets.call H
            refine Dv.callx (pre:=[]) (F:=[blk b1877 168 (Par.enc t1875.1),SSnd.O ((mget (zipK x1862.fsenders z1870) ((srtS (a0.fsenders.map (·.1))).getD x1861.toNat default)).getD nilP) t1875.2.2.2,VView.O g1868.2.2.2.1 x1862.fall.fView,thgB SSnd.O x1862.fsenders z1870 ((srtS (a0.fsenders.map (·.1))).getD x1861.toNat default),mp Value.string (fun p:OV=>eq p.1) g1868.2.2.2.2.2.2.2.2.2.1 (zipK x1862.fsenders z1870),blk g1868.1 102 [vS x1862.fself,eq g1868.2.1.1,eq g1868.2.2.1.1,eq g1868.2.2.2.1.1,eq g1868.2.2.2.2.1.1,eq g1868.2.2.2.2.2.1.1,eq g1868.2.2.2.2.2.2.1.1,eq g1868.2.2.2.2.2.2.2.1.1,eq g1868.2.2.2.2.2.2.2.2.1.1,eq g1868.2.2.2.2.2.2.2.2.2.1],Ctr.O g1868.2.1 x1862.ftick,Ctr.O g1868.2.2.1 x1862.fstamps,Mks.O g1868.2.2.2.2.1 x1862.fall.fMarks,TTab.O g1868.2.2.2.2.2.1 x1862.fall.fTyping,PTab.O g1868.2.2.2.2.2.2.1 x1862.fall.fPresence,DLog.O g1868.2.2.2.2.2.2.2.1 x1862.fall.fLog,SMosOf.O g1868.2.2.2.2.2.2.2.2.1 x1862.fcome,own strK v1858.1 (srtS (a0.fsenders.map (·.1))),own (slK (intK .u8)) v1864.1 x1863]++F) (fun g1881:OV=>[own (intK .u8) g1881.1 t1879.1,blk b1877 168 (Par.enc t1875.1),SSnd.O ((mget (zipK x1862.fsenders z1870) ((srtS (a0.fsenders.map (·.1))).getD x1861.toNat default)).getD nilP) t1875.2.2.2,VView.O g1868.2.2.2.1 x1862.fall.fView,thgB SSnd.O x1862.fsenders z1870 ((srtS (a0.fsenders.map (·.1))).getD x1861.toNat default),mp Value.string (fun p:OV=>eq p.1) g1868.2.2.2.2.2.2.2.2.2.1 (zipK x1862.fsenders z1870),blk g1868.1 102 [vS x1862.fself,eq g1868.2.1.1,eq g1868.2.2.1.1,eq g1868.2.2.2.1.1,eq g1868.2.2.2.2.1.1,eq g1868.2.2.2.2.2.1.1,eq g1868.2.2.2.2.2.2.1.1,eq g1868.2.2.2.2.2.2.2.1.1,eq g1868.2.2.2.2.2.2.2.2.1.1,eq g1868.2.2.2.2.2.2.2.2.2.1],Ctr.O g1868.2.1 x1862.ftick,Ctr.O g1868.2.2.1 x1862.fstamps,Mks.O g1868.2.2.2.2.1 x1862.fall.fMarks,TTab.O g1868.2.2.2.2.2.1 x1862.fall.fTyping,PTab.O g1868.2.2.2.2.2.2.1 x1862.fall.fPresence,DLog.O g1868.2.2.2.2.2.2.2.1 x1862.fall.fLog,SMosOf.O g1868.2.2.2.2.2.2.2.2.1 x1862.fcome,own strK v1858.1 (srtS (a0.fsenders.map (·.1))),own (slK (intK .u8)) v1864.1 x1863]++F) rfl trivial cal69 rfl (parcel_Write.c h1880) (perm_to (L:=[blk b1877 168 (Par.enc t1875.1),SSnd.O ((mget (zipK x1862.fsenders z1870) ((srtS (a0.fsenders.map (·.1))).getD x1861.toNat default)).getD nilP) t1875.2.2.2,VView.O g1868.2.2.2.1 x1862.fall.fView,thgB SSnd.O x1862.fsenders z1870 ((srtS (a0.fsenders.map (·.1))).getD x1861.toNat default),mp Value.string (fun p:OV=>eq p.1) g1868.2.2.2.2.2.2.2.2.2.1 (zipK x1862.fsenders z1870),blk g1868.1 102 [vS x1862.fself,eq g1868.2.1.1,eq g1868.2.2.1.1,eq g1868.2.2.2.1.1,eq g1868.2.2.2.2.1.1,eq g1868.2.2.2.2.2.1.1,eq g1868.2.2.2.2.2.2.1.1,eq g1868.2.2.2.2.2.2.2.1.1,eq g1868.2.2.2.2.2.2.2.2.1.1,eq g1868.2.2.2.2.2.2.2.2.2.1],Ctr.O g1868.2.1 x1862.ftick,Ctr.O g1868.2.2.1 x1862.fstamps,Mks.O g1868.2.2.2.2.1 x1862.fall.fMarks,TTab.O g1868.2.2.2.2.2.1 x1862.fall.fTyping,PTab.O g1868.2.2.2.2.2.2.1 x1862.fall.fPresence,DLog.O g1868.2.2.2.2.2.2.2.1 x1862.fall.fLog,SMosOf.O g1868.2.2.2.2.2.2.2.2.1 x1862.fcome,own strK v1858.1 (srtS (a0.fsenders.map (·.1))),own (slK (intK .u8)) v1864.1 x1863]) (F:=F) [0,1,2,3,4,5,6,7,8,9,10,11,12,13,14] (by kernel_rfl) rfl rfl) rfl nofun (fun g1881 _=>?_)
            refine Dv.mv rfl trivial rfl ?_
            refine Dv.ext rfl trivial rfl rfl ?_
            refine Dv.ext rfl trivial rfl rfl ?_
            refine Dv.asg rfl trivial rfl ?_
            refine Dv.asg rfl trivial rfl ?_
            refine .fin ?_
            refine rg 5 8 ?_
            refine Dv.mv rfl trivial rfl ?_
            refine Dv.mv rfl trivial rfl ?_
            refine Dv.gh (gh_frz (E':=[(0,eq p0_.1),(5,eq v1864.1),(7,vS ((srtS (a0.fsenders.map (·.1))).getD x1861.toNat default)),(8,eq (.pointer (some ⟨b1877,0,none⟩))),(9,vB t1875.2.1),(11,sl (intK .u8) t1879.1),(28,eq v1858.1),(29,vI ((srtS (a0.fsenders.map (·.1))).length:Int)),(30,vI x1861),(31,vB (decide (x1861 < ((srtS (a0.fsenders.map (·.1))).length:Int)))),(52,vB t1875.2.1),(58,eq v1864.1),(59,sl (intK .u8) t1879.1)]) (l':=[blk b1877 168 (Par.enc t1875.1),SSnd.O ((mget (zipK x1862.fsenders z1870) ((srtS (a0.fsenders.map (·.1))).getD x1861.toNat default)).getD nilP) t1875.2.2.2,VView.O g1868.2.2.2.1 x1862.fall.fView,thgB SSnd.O x1862.fsenders z1870 ((srtS (a0.fsenders.map (·.1))).getD x1861.toNat default),mp Value.string (fun p:OV=>eq p.1) g1868.2.2.2.2.2.2.2.2.2.1 (zipK x1862.fsenders z1870),blk g1868.1 102 [vS x1862.fself,eq g1868.2.1.1,eq g1868.2.2.1.1,eq g1868.2.2.2.1.1,eq g1868.2.2.2.2.1.1,eq g1868.2.2.2.2.2.1.1,eq g1868.2.2.2.2.2.2.1.1,eq g1868.2.2.2.2.2.2.2.1.1,eq g1868.2.2.2.2.2.2.2.2.1.1,eq g1868.2.2.2.2.2.2.2.2.2.1],Ctr.O g1868.2.1 x1862.ftick,Ctr.O g1868.2.2.1 x1862.fstamps,Mks.O g1868.2.2.2.2.1 x1862.fall.fMarks,TTab.O g1868.2.2.2.2.2.1 x1862.fall.fTyping,PTab.O g1868.2.2.2.2.2.2.1 x1862.fall.fPresence,DLog.O g1868.2.2.2.2.2.2.2.1 x1862.fall.fLog,SMosOf.O g1868.2.2.2.2.2.2.2.2.1 x1862.fcome,own strK v1858.1 (srtS (a0.fsenders.map (·.1))),own (slK (intK .u8)) v1864.1 x1863]++F) 0 rfl (cve_cons rfl cv_id (cve_cons rfl cv_id (cve_cons rfl cv_id (cve_cons rfl cv_id (cve_cons rfl cv_id (cve_cons rfl cv_eq (cve_cons rfl cv_id (cve_cons rfl cv_id (cve_cons rfl cv_id (cve_cons rfl cv_id (cve_cons rfl cv_id (cve_cons rfl cv_id (cve_cons rfl cv_eq cve_nil))))))))))))) (all2_app (.cons cva_id (.cons cva_id (.cons cva_id (.cons cva_id (.cons cva_id (.cons cva_id (.cons cva_id (.cons cva_id (.cons cva_id (.cons cva_id (.cons cva_id (.cons cva_id (.cons cva_id (.cons cva_id (.cons cva_id .nil))))))))))))))) fun _=>cva_id)) (fun _ _=>?_)
            refine Dv.lit (slK (intK .u8)) ([t1879.1]:List (List Int)) (css:=[[sl (intK .u8) t1879.1]]) rfl trivial Tryz.underlying109 Tryz.underlying41 c41 z41 rfl (by decide) (by decide) rfl ⟨(cells_one one_sl),trivial⟩ rfl rfl rfl ?_
            obtain ⟨g1882,H⟩:=Gets.grd H
            refine Dv.appx (Kd:=(slK (intK .u8))) (jj:=14) (ys:=([t1879.1]:List (List Int))) (fun v1883:OV=>[blk b1877 168 (Par.enc t1875.1),SSnd.O ((mget (zipK x1862.fsenders z1870) ((srtS (a0.fsenders.map (·.1))).getD x1861.toNat default)).getD nilP) t1875.2.2.2,VView.O g1868.2.2.2.1 x1862.fall.fView,thgB SSnd.O x1862.fsenders z1870 ((srtS (a0.fsenders.map (·.1))).getD x1861.toNat default),mp Value.string (fun p:OV=>eq p.1) g1868.2.2.2.2.2.2.2.2.2.1 (zipK x1862.fsenders z1870),blk g1868.1 102 [vS x1862.fself,eq g1868.2.1.1,eq g1868.2.2.1.1,eq g1868.2.2.2.1.1,eq g1868.2.2.2.2.1.1,eq g1868.2.2.2.2.2.1.1,eq g1868.2.2.2.2.2.2.1.1,eq g1868.2.2.2.2.2.2.2.1.1,eq g1868.2.2.2.2.2.2.2.2.1.1,eq g1868.2.2.2.2.2.2.2.2.2.1],Ctr.O g1868.2.1 x1862.ftick,Ctr.O g1868.2.2.1 x1862.fstamps,Mks.O g1868.2.2.2.2.1 x1862.fall.fMarks,TTab.O g1868.2.2.2.2.2.1 x1862.fall.fTyping,PTab.O g1868.2.2.2.2.2.2.1 x1862.fall.fPresence,DLog.O g1868.2.2.2.2.2.2.2.1 x1862.fall.fLog,SMosOf.O g1868.2.2.2.2.2.2.2.2.1 x1862.fcome,own strK v1858.1 (srtS (a0.fsenders.map (·.1))),own (slK (intK .u8)) v1883.1 (x1863++([t1879.1]:List (List Int)))]++F) rfl trivial rfl rfl rfl src_sl Tryz.underlying109 (.inr ⟨_,Tryz.underlying109⟩) inf41 rfl (by decide) g1882 rfl nofun (fun v1883=>?_)
            refine Dv.asg rfl trivial rfl ?_
            refine .fin ?_
            refine rg 2 0 ?_
            refine Dv.bin rfl trivial rfl rfl (fun _=>run_add) ?_
            refine Dv.mv rfl trivial rfl ?_
            refine .fin ?_
            refine Dn.gh (l':=fun _:Unit=>[thg SSnd.O (mput x1862.fsenders ((srtS (a0.fsenders.map (·.1))).getD x1861.toNat default) t1875.2.2.2) z1870,blk b1877 168 (Par.enc t1875.1),VView.O g1868.2.2.2.1 x1862.fall.fView,mp Value.string (fun p:OV=>eq p.1) g1868.2.2.2.2.2.2.2.2.2.1 (zipK x1862.fsenders z1870),blk g1868.1 102 [vS x1862.fself,eq g1868.2.1.1,eq g1868.2.2.1.1,eq g1868.2.2.2.1.1,eq g1868.2.2.2.2.1.1,eq g1868.2.2.2.2.2.1.1,eq g1868.2.2.2.2.2.2.1.1,eq g1868.2.2.2.2.2.2.2.1.1,eq g1868.2.2.2.2.2.2.2.2.1.1,eq g1868.2.2.2.2.2.2.2.2.2.1],Ctr.O g1868.2.1 x1862.ftick,Ctr.O g1868.2.2.1 x1862.fstamps,Mks.O g1868.2.2.2.2.1 x1862.fall.fMarks,TTab.O g1868.2.2.2.2.2.1 x1862.fall.fTyping,PTab.O g1868.2.2.2.2.2.2.1 x1862.fall.fPresence,DLog.O g1868.2.2.2.2.2.2.2.1 x1862.fall.fLog,SMosOf.O g1868.2.2.2.2.2.2.2.2.1 x1862.fcome,own strK v1858.1 (srtS (a0.fsenders.map (·.1))),own (slK (intK .u8)) v1883.1 (x1863++([t1879.1]:List (List Int)))]++F) (gh_of (mpo_unf h1871 rfl g1872 (perm_to (L:=[blk b1877 168 (Par.enc t1875.1),SSnd.O ((mget (zipK x1862.fsenders z1870) ((srtS (a0.fsenders.map (·.1))).getD x1861.toNat default)).getD nilP) t1875.2.2.2,VView.O g1868.2.2.2.1 x1862.fall.fView,thgB SSnd.O x1862.fsenders z1870 ((srtS (a0.fsenders.map (·.1))).getD x1861.toNat default),mp Value.string (fun p:OV=>eq p.1) g1868.2.2.2.2.2.2.2.2.2.1 (zipK x1862.fsenders z1870),blk g1868.1 102 [vS x1862.fself,eq g1868.2.1.1,eq g1868.2.2.1.1,eq g1868.2.2.2.1.1,eq g1868.2.2.2.2.1.1,eq g1868.2.2.2.2.2.1.1,eq g1868.2.2.2.2.2.2.1.1,eq g1868.2.2.2.2.2.2.2.1.1,eq g1868.2.2.2.2.2.2.2.2.1.1,eq g1868.2.2.2.2.2.2.2.2.2.1],Ctr.O g1868.2.1 x1862.ftick,Ctr.O g1868.2.2.1 x1862.fstamps,Mks.O g1868.2.2.2.2.1 x1862.fall.fMarks,TTab.O g1868.2.2.2.2.2.1 x1862.fall.fTyping,PTab.O g1868.2.2.2.2.2.2.1 x1862.fall.fPresence,DLog.O g1868.2.2.2.2.2.2.2.1 x1862.fall.fLog,SMosOf.O g1868.2.2.2.2.2.2.2.2.1 x1862.fcome,own strK v1858.1 (srtS (a0.fsenders.map (·.1))),own (slK (intK .u8)) v1883.1 (x1863++([t1879.1]:List (List Int)))]) (F:=F) [1,3,0,2,4,5,6,7,8,9,10,11,12,13,14] (by kernel_rfl) rfl rfl))) (fun _ h1884=>?_)
            refine Dn.gh (l':=fun _:Unit=>[mpo Value.string SSnd.O g1868.2.2.2.2.2.2.2.2.2.1 (mput x1862.fsenders ((srtS (a0.fsenders.map (·.1))).getD x1861.toNat default) t1875.2.2.2),blk b1877 168 (Par.enc t1875.1),VView.O g1868.2.2.2.1 x1862.fall.fView,blk g1868.1 102 [vS x1862.fself,eq g1868.2.1.1,eq g1868.2.2.1.1,eq g1868.2.2.2.1.1,eq g1868.2.2.2.2.1.1,eq g1868.2.2.2.2.2.1.1,eq g1868.2.2.2.2.2.2.1.1,eq g1868.2.2.2.2.2.2.2.1.1,eq g1868.2.2.2.2.2.2.2.2.1.1,eq g1868.2.2.2.2.2.2.2.2.2.1],Ctr.O g1868.2.1 x1862.ftick,Ctr.O g1868.2.2.1 x1862.fstamps,Mks.O g1868.2.2.2.2.1 x1862.fall.fMarks,TTab.O g1868.2.2.2.2.2.1 x1862.fall.fTyping,PTab.O g1868.2.2.2.2.2.2.1 x1862.fall.fPresence,DLog.O g1868.2.2.2.2.2.2.2.1 x1862.fall.fLog,SMosOf.O g1868.2.2.2.2.2.2.2.2.1 x1862.fcome,own strK v1858.1 (srtS (a0.fsenders.map (·.1))),own (slK (intK .u8)) v1883.1 (x1863++([t1879.1]:List (List Int)))]++F) (gh_of (mpo_shut h1884 (zipK_put' rfl g1872) (perm_to (L:=[thg SSnd.O (mput x1862.fsenders ((srtS (a0.fsenders.map (·.1))).getD x1861.toNat default) t1875.2.2.2) z1870,blk b1877 168 (Par.enc t1875.1),VView.O g1868.2.2.2.1 x1862.fall.fView,mp Value.string (fun p:OV=>eq p.1) g1868.2.2.2.2.2.2.2.2.2.1 (zipK x1862.fsenders z1870),blk g1868.1 102 [vS x1862.fself,eq g1868.2.1.1,eq g1868.2.2.1.1,eq g1868.2.2.2.1.1,eq g1868.2.2.2.2.1.1,eq g1868.2.2.2.2.2.1.1,eq g1868.2.2.2.2.2.2.1.1,eq g1868.2.2.2.2.2.2.2.1.1,eq g1868.2.2.2.2.2.2.2.2.1.1,eq g1868.2.2.2.2.2.2.2.2.2.1],Ctr.O g1868.2.1 x1862.ftick,Ctr.O g1868.2.2.1 x1862.fstamps,Mks.O g1868.2.2.2.2.1 x1862.fall.fMarks,TTab.O g1868.2.2.2.2.2.1 x1862.fall.fTyping,PTab.O g1868.2.2.2.2.2.2.1 x1862.fall.fPresence,DLog.O g1868.2.2.2.2.2.2.2.1 x1862.fall.fLog,SMosOf.O g1868.2.2.2.2.2.2.2.2.1 x1862.fcome,own strK v1858.1 (srtS (a0.fsenders.map (·.1))),own (slK (intK .u8)) v1883.1 (x1863++([t1879.1]:List (List Int)))]) (F:=F) [3,0,1,2,4,5,6,7,8,9,10,11,12,13] (by kernel_rfl) rfl rfl))) (fun _ _=>?_)
            refine Dn.gh (l':=fun _:Unit=>[SSelTicStaAllComSen.O p0_ (⟨x1862.fself,x1862.ftick,x1862.fstamps,x1862.fall,x1862.fcome,mput x1862.fsenders ((srtS (a0.fsenders.map (·.1))).getD x1861.toNat default) t1875.2.2.2⟩:SSelTicStaAllComSen),blk b1877 168 (Par.enc t1875.1),own strK v1858.1 (srtS (a0.fsenders.map (·.1))),own (slK (intK .u8)) v1883.1 (x1863++([t1879.1]:List (List Int)))]++F) (gh_of (SSelTicStaAllComSen.shut (p:=p0_) (m:=(⟨x1862.fself,x1862.ftick,x1862.fstamps,x1862.fall,x1862.fcome,mput x1862.fsenders ((srtS (a0.fsenders.map (·.1))).getD x1861.toNat default) t1875.2.2.2⟩:SSelTicStaAllComSen)) (r:=[blk b1877 168 (Par.enc t1875.1),own strK v1858.1 (srtS (a0.fsenders.map (·.1))),own (slK (intK .u8)) v1883.1 (x1863++([t1879.1]:List (List Int)))]++F) (g1868.1,g1868.2.1,g1868.2.2.1,g1868.2.2.2.1,g1868.2.2.2.2.1,g1868.2.2.2.2.2.1,g1868.2.2.2.2.2.2.1,g1868.2.2.2.2.2.2.2.1,g1868.2.2.2.2.2.2.2.2.1,g1868.2.2.2.2.2.2.2.2.2) h1869 (perm_to (L:=[mpo Value.string SSnd.O g1868.2.2.2.2.2.2.2.2.2.1 (mput x1862.fsenders ((srtS (a0.fsenders.map (·.1))).getD x1861.toNat default) t1875.2.2.2),blk b1877 168 (Par.enc t1875.1),VView.O g1868.2.2.2.1 x1862.fall.fView,blk g1868.1 102 [vS x1862.fself,eq g1868.2.1.1,eq g1868.2.2.1.1,eq g1868.2.2.2.1.1,eq g1868.2.2.2.2.1.1,eq g1868.2.2.2.2.2.1.1,eq g1868.2.2.2.2.2.2.1.1,eq g1868.2.2.2.2.2.2.2.1.1,eq g1868.2.2.2.2.2.2.2.2.1.1,eq g1868.2.2.2.2.2.2.2.2.2.1],Ctr.O g1868.2.1 x1862.ftick,Ctr.O g1868.2.2.1 x1862.fstamps,Mks.O g1868.2.2.2.2.1 x1862.fall.fMarks,TTab.O g1868.2.2.2.2.2.1 x1862.fall.fTyping,PTab.O g1868.2.2.2.2.2.2.1 x1862.fall.fPresence,DLog.O g1868.2.2.2.2.2.2.2.1 x1862.fall.fLog,SMosOf.O g1868.2.2.2.2.2.2.2.2.1 x1862.fcome,own strK v1858.1 (srtS (a0.fsenders.map (·.1))),own (slK (intK .u8)) v1883.1 (x1863++([t1879.1]:List (List Int)))]) (F:=F) [3,4,5,2,6,7,8,9,10,0,1,11,12] (by kernel_rfl) rfl rfl))) (fun _ _=>?_)
            refine Dn.gh (l':=fun _:Unit=>[own strK v1858.1 (srtS (a0.fsenders.map (·.1))),SSelTicStaAllComSen.O p0_ (⟨x1862.fself,x1862.ftick,x1862.fstamps,x1862.fall,x1862.fcome,mput x1862.fsenders ((srtS (a0.fsenders.map (·.1))).getD x1861.toNat default) t1875.2.2.2⟩:SSelTicStaAllComSen),own (slK (intK .u8)) v1883.1 (x1863++([t1879.1]:List (List Int)))]++F) (gh_of (st_selg (L:=[SSelTicStaAllComSen.O p0_ (⟨x1862.fself,x1862.ftick,x1862.fstamps,x1862.fall,x1862.fcome,mput x1862.fsenders ((srtS (a0.fsenders.map (·.1))).getD x1861.toNat default) t1875.2.2.2⟩:SSelTicStaAllComSen),blk b1877 168 (Par.enc t1875.1),own strK v1858.1 (srtS (a0.fsenders.map (·.1))),own (slK (intK .u8)) v1883.1 (x1863++([t1879.1]:List (List Int)))]) (F:=F) [1,2,0,3] 1 rfl rfl rfl)) (fun _ _=>?_)
            exact Back.mk j1886 (w64 (x1861 + 1),(⟨x1862.fself,x1862.ftick,x1862.fstamps,x1862.fall,x1862.fcome,mput x1862.fsenders ((srtS (a0.fsenders.map (·.1))).getD x1861.toNat default) t1875.2.2.2⟩:SSelTicStaAllComSen),x1863++([t1879.1]:List (List Int)),v1883) (Nat.lt_succ_self _) H (weak_cons rfl (weak_cons rfl (weak_cons rfl (weak_cons rfl (weak_cons rfl weak_nil))))) (List.Perm.refl _)
          · have H:=H.cf c1878
            refine WP.skip ?_
            refine rg 2 0 ?_
            refine Dv.bin rfl trivial rfl rfl (fun _=>run_add) ?_
            refine Dv.mv rfl trivial rfl ?_
            refine .fin ?_
            refine Dn.gh (l':=fun _:Unit=>[thg SSnd.O (mput x1862.fsenders ((srtS (a0.fsenders.map (·.1))).getD x1861.toNat default) t1875.2.2.2) z1870,blk b1877 168 (Par.enc t1875.1),VView.O g1868.2.2.2.1 x1862.fall.fView,mp Value.string (fun p:OV=>eq p.1) g1868.2.2.2.2.2.2.2.2.2.1 (zipK x1862.fsenders z1870),blk g1868.1 102 [vS x1862.fself,eq g1868.2.1.1,eq g1868.2.2.1.1,eq g1868.2.2.2.1.1,eq g1868.2.2.2.2.1.1,eq g1868.2.2.2.2.2.1.1,eq g1868.2.2.2.2.2.2.1.1,eq g1868.2.2.2.2.2.2.2.1.1,eq g1868.2.2.2.2.2.2.2.2.1.1,eq g1868.2.2.2.2.2.2.2.2.2.1],Ctr.O g1868.2.1 x1862.ftick,Ctr.O g1868.2.2.1 x1862.fstamps,Mks.O g1868.2.2.2.2.1 x1862.fall.fMarks,TTab.O g1868.2.2.2.2.2.1 x1862.fall.fTyping,PTab.O g1868.2.2.2.2.2.2.1 x1862.fall.fPresence,DLog.O g1868.2.2.2.2.2.2.2.1 x1862.fall.fLog,SMosOf.O g1868.2.2.2.2.2.2.2.2.1 x1862.fcome,own strK v1858.1 (srtS (a0.fsenders.map (·.1))),own (slK (intK .u8)) v1864.1 x1863]++F) (gh_of (mpo_unf h1871 rfl g1872 (perm_to (L:=[blk b1877 168 (Par.enc t1875.1),SSnd.O ((mget (zipK x1862.fsenders z1870) ((srtS (a0.fsenders.map (·.1))).getD x1861.toNat default)).getD nilP) t1875.2.2.2,VView.O g1868.2.2.2.1 x1862.fall.fView,thgB SSnd.O x1862.fsenders z1870 ((srtS (a0.fsenders.map (·.1))).getD x1861.toNat default),mp Value.string (fun p:OV=>eq p.1) g1868.2.2.2.2.2.2.2.2.2.1 (zipK x1862.fsenders z1870),blk g1868.1 102 [vS x1862.fself,eq g1868.2.1.1,eq g1868.2.2.1.1,eq g1868.2.2.2.1.1,eq g1868.2.2.2.2.1.1,eq g1868.2.2.2.2.2.1.1,eq g1868.2.2.2.2.2.2.1.1,eq g1868.2.2.2.2.2.2.2.1.1,eq g1868.2.2.2.2.2.2.2.2.1.1,eq g1868.2.2.2.2.2.2.2.2.2.1],Ctr.O g1868.2.1 x1862.ftick,Ctr.O g1868.2.2.1 x1862.fstamps,Mks.O g1868.2.2.2.2.1 x1862.fall.fMarks,TTab.O g1868.2.2.2.2.2.1 x1862.fall.fTyping,PTab.O g1868.2.2.2.2.2.2.1 x1862.fall.fPresence,DLog.O g1868.2.2.2.2.2.2.2.1 x1862.fall.fLog,SMosOf.O g1868.2.2.2.2.2.2.2.2.1 x1862.fcome,own strK v1858.1 (srtS (a0.fsenders.map (·.1))),own (slK (intK .u8)) v1864.1 x1863]) (F:=F) [1,3,0,2,4,5,6,7,8,9,10,11,12,13,14] (by kernel_rfl) rfl rfl))) (fun _ h1885=>?_)
            refine Dn.gh (l':=fun _:Unit=>[mpo Value.string SSnd.O g1868.2.2.2.2.2.2.2.2.2.1 (mput x1862.fsenders ((srtS (a0.fsenders.map (·.1))).getD x1861.toNat default) t1875.2.2.2),blk b1877 168 (Par.enc t1875.1),VView.O g1868.2.2.2.1 x1862.fall.fView,blk g1868.1 102 [vS x1862.fself,eq g1868.2.1.1,eq g1868.2.2.1.1,eq g1868.2.2.2.1.1,eq g1868.2.2.2.2.1.1,eq g1868.2.2.2.2.2.1.1,eq g1868.2.2.2.2.2.2.1.1,eq g1868.2.2.2.2.2.2.2.1.1,eq g1868.2.2.2.2.2.2.2.2.1.1,eq g1868.2.2.2.2.2.2.2.2.2.1],Ctr.O g1868.2.1 x1862.ftick,Ctr.O g1868.2.2.1 x1862.fstamps,Mks.O g1868.2.2.2.2.1 x1862.fall.fMarks,TTab.O g1868.2.2.2.2.2.1 x1862.fall.fTyping,PTab.O g1868.2.2.2.2.2.2.1 x1862.fall.fPresence,DLog.O g1868.2.2.2.2.2.2.2.1 x1862.fall.fLog,SMosOf.O g1868.2.2.2.2.2.2.2.2.1 x1862.fcome,own strK v1858.1 (srtS (a0.fsenders.map (·.1))),own (slK (intK .u8)) v1864.1 x1863]++F) (gh_of (mpo_shut h1885 (zipK_put' rfl g1872) (perm_to (L:=[thg SSnd.O (mput x1862.fsenders ((srtS (a0.fsenders.map (·.1))).getD x1861.toNat default) t1875.2.2.2) z1870,blk b1877 168 (Par.enc t1875.1),VView.O g1868.2.2.2.1 x1862.fall.fView,mp Value.string (fun p:OV=>eq p.1) g1868.2.2.2.2.2.2.2.2.2.1 (zipK x1862.fsenders z1870),blk g1868.1 102 [vS x1862.fself,eq g1868.2.1.1,eq g1868.2.2.1.1,eq g1868.2.2.2.1.1,eq g1868.2.2.2.2.1.1,eq g1868.2.2.2.2.2.1.1,eq g1868.2.2.2.2.2.2.1.1,eq g1868.2.2.2.2.2.2.2.1.1,eq g1868.2.2.2.2.2.2.2.2.1.1,eq g1868.2.2.2.2.2.2.2.2.2.1],Ctr.O g1868.2.1 x1862.ftick,Ctr.O g1868.2.2.1 x1862.fstamps,Mks.O g1868.2.2.2.2.1 x1862.fall.fMarks,TTab.O g1868.2.2.2.2.2.1 x1862.fall.fTyping,PTab.O g1868.2.2.2.2.2.2.1 x1862.fall.fPresence,DLog.O g1868.2.2.2.2.2.2.2.1 x1862.fall.fLog,SMosOf.O g1868.2.2.2.2.2.2.2.2.1 x1862.fcome,own strK v1858.1 (srtS (a0.fsenders.map (·.1))),own (slK (intK .u8)) v1864.1 x1863]) (F:=F) [3,0,1,2,4,5,6,7,8,9,10,11,12,13] (by kernel_rfl) rfl rfl))) (fun _ _=>?_)
            refine Dn.gh (l':=fun _:Unit=>[SSelTicStaAllComSen.O p0_ (⟨x1862.fself,x1862.ftick,x1862.fstamps,x1862.fall,x1862.fcome,mput x1862.fsenders ((srtS (a0.fsenders.map (·.1))).getD x1861.toNat default) t1875.2.2.2⟩:SSelTicStaAllComSen),blk b1877 168 (Par.enc t1875.1),own strK v1858.1 (srtS (a0.fsenders.map (·.1))),own (slK (intK .u8)) v1864.1 x1863]++F) (gh_of (SSelTicStaAllComSen.shut (p:=p0_) (m:=(⟨x1862.fself,x1862.ftick,x1862.fstamps,x1862.fall,x1862.fcome,mput x1862.fsenders ((srtS (a0.fsenders.map (·.1))).getD x1861.toNat default) t1875.2.2.2⟩:SSelTicStaAllComSen)) (r:=[blk b1877 168 (Par.enc t1875.1),own strK v1858.1 (srtS (a0.fsenders.map (·.1))),own (slK (intK .u8)) v1864.1 x1863]++F) (g1868.1,g1868.2.1,g1868.2.2.1,g1868.2.2.2.1,g1868.2.2.2.2.1,g1868.2.2.2.2.2.1,g1868.2.2.2.2.2.2.1,g1868.2.2.2.2.2.2.2.1,g1868.2.2.2.2.2.2.2.2.1,g1868.2.2.2.2.2.2.2.2.2) h1869 (perm_to (L:=[mpo Value.string SSnd.O g1868.2.2.2.2.2.2.2.2.2.1 (mput x1862.fsenders ((srtS (a0.fsenders.map (·.1))).getD x1861.toNat default) t1875.2.2.2),blk b1877 168 (Par.enc t1875.1),VView.O g1868.2.2.2.1 x1862.fall.fView,blk g1868.1 102 [vS x1862.fself,eq g1868.2.1.1,eq g1868.2.2.1.1,eq g1868.2.2.2.1.1,eq g1868.2.2.2.2.1.1,eq g1868.2.2.2.2.2.1.1,eq g1868.2.2.2.2.2.2.1.1,eq g1868.2.2.2.2.2.2.2.1.1,eq g1868.2.2.2.2.2.2.2.2.1.1,eq g1868.2.2.2.2.2.2.2.2.2.1],Ctr.O g1868.2.1 x1862.ftick,Ctr.O g1868.2.2.1 x1862.fstamps,Mks.O g1868.2.2.2.2.1 x1862.fall.fMarks,TTab.O g1868.2.2.2.2.2.1 x1862.fall.fTyping,PTab.O g1868.2.2.2.2.2.2.1 x1862.fall.fPresence,DLog.O g1868.2.2.2.2.2.2.2.1 x1862.fall.fLog,SMosOf.O g1868.2.2.2.2.2.2.2.2.1 x1862.fcome,own strK v1858.1 (srtS (a0.fsenders.map (·.1))),own (slK (intK .u8)) v1864.1 x1863]) (F:=F) [3,4,5,2,6,7,8,9,10,0,1,11,12] (by kernel_rfl) rfl rfl))) (fun _ _=>?_)
            refine Dn.gh (l':=fun _:Unit=>[own strK v1858.1 (srtS (a0.fsenders.map (·.1))),SSelTicStaAllComSen.O p0_ (⟨x1862.fself,x1862.ftick,x1862.fstamps,x1862.fall,x1862.fcome,mput x1862.fsenders ((srtS (a0.fsenders.map (·.1))).getD x1861.toNat default) t1875.2.2.2⟩:SSelTicStaAllComSen),own (slK (intK .u8)) v1864.1 x1863]++F) (gh_of (st_selg (L:=[SSelTicStaAllComSen.O p0_ (⟨x1862.fself,x1862.ftick,x1862.fstamps,x1862.fall,x1862.fcome,mput x1862.fsenders ((srtS (a0.fsenders.map (·.1))).getD x1861.toNat default) t1875.2.2.2⟩:SSelTicStaAllComSen),blk b1877 168 (Par.enc t1875.1),own strK v1858.1 (srtS (a0.fsenders.map (·.1))),own (slK (intK .u8)) v1864.1 x1863]) (F:=F) [1,2,0,3] 1 rfl rfl rfl)) (fun _ _=>?_)
            exact Back.mk j1886 (w64 (x1861 + 1),(⟨x1862.fself,x1862.ftick,x1862.fstamps,x1862.fall,x1862.fcome,mput x1862.fsenders ((srtS (a0.fsenders.map (·.1))).getD x1861.toNat default) t1875.2.2.2⟩:SSelTicStaAllComSen),x1863,v1864) (Nat.lt_succ_self _) H (weak_cons rfl (weak_cons rfl (weak_cons rfl (weak_cons rfl (weak_cons rfl weak_nil))))) (List.Perm.refl _)
      · have H:=H.cf c1865
        refine WP.exit ?_
        have H:=H.out
        exact Jn.mk ((x1861,decide (x1861 < ((srtS (a0.fsenders.map (·.1))).length:Int)),x1862,x1863),v1864) H (weak_cons rfl weak_nil) (List.Perm.refl _)
  · refine WP.seq ?_
    refine rg 5 16 ?_
    refine Dv.mv rfl trivial rfl ?_
    refine Dv.nilA SSelTicStaAllComSen.nn rfl trivial rfl (mem_at 0 rfl) ?_
    refine Dv.gh (l':=fun (g1852:Nat×OV×OV×OV×OV×OV×OV×OV×OV×OV)=>[blk g1852.1 102 [vS a0.fself,eq g1852.2.1.1,eq g1852.2.2.1.1,eq g1852.2.2.2.1.1,eq g1852.2.2.2.2.1.1,eq g1852.2.2.2.2.2.1.1,eq g1852.2.2.2.2.2.2.1.1,eq g1852.2.2.2.2.2.2.2.1.1,eq g1852.2.2.2.2.2.2.2.2.1.1,eq g1852.2.2.2.2.2.2.2.2.2.1],Ctr.O g1852.2.1 a0.ftick,Ctr.O g1852.2.2.1 a0.fstamps,VView.O g1852.2.2.2.1 a0.fall.fView,Mks.O g1852.2.2.2.2.1 a0.fall.fMarks,TTab.O g1852.2.2.2.2.2.1 a0.fall.fTyping,PTab.O g1852.2.2.2.2.2.2.1 a0.fall.fPresence,DLog.O g1852.2.2.2.2.2.2.2.1 a0.fall.fLog,SMosOf.O g1852.2.2.2.2.2.2.2.2.1 a0.fcome,mpo Value.string SSnd.O g1852.2.2.2.2.2.2.2.2.2.1 a0.fsenders]++F) (gh_of (SSelTicStaAllComSen.opn 0 rfl)) (fun g1852 h1853=>?_)
    refine fp h1853 rfl trivial rfl fa102_5 ?_
    refine ld 0 rfl trivial rfl sc100 rfl rfl ?_
    refine Dv.gh (l':=fun z1854:List OV=>[mp Value.string (fun p:OV=>eq p.1) g1852.2.2.2.2.2.2.2.2.2.1 (zipK a0.fsenders z1854),thg SSnd.O a0.fsenders z1854,blk g1852.1 102 [vS a0.fself,eq g1852.2.1.1,eq g1852.2.2.1.1,eq g1852.2.2.2.1.1,eq g1852.2.2.2.2.1.1,eq g1852.2.2.2.2.2.1.1,eq g1852.2.2.2.2.2.2.1.1,eq g1852.2.2.2.2.2.2.2.1.1,eq g1852.2.2.2.2.2.2.2.2.1.1,eq g1852.2.2.2.2.2.2.2.2.2.1],Ctr.O g1852.2.1 a0.ftick,Ctr.O g1852.2.2.1 a0.fstamps,VView.O g1852.2.2.2.1 a0.fall.fView,Mks.O g1852.2.2.2.2.1 a0.fall.fMarks,TTab.O g1852.2.2.2.2.2.1 a0.fall.fTyping,PTab.O g1852.2.2.2.2.2.2.1 a0.fall.fPresence,DLog.O g1852.2.2.2.2.2.2.2.1 a0.fall.fLog,SMosOf.O g1852.2.2.2.2.2.2.2.2.1 a0.fcome]++F) (gh_of (mpo_opn 9 rfl)) (fun z1854 h1855=>?_)
    refine Dv.rgb (jj:=0) rfl trivial rfl rfl Tryz.underlying100 nofun (fun q1856=>?_)
    refine .fin ?_
    refine WP.gh (l':=fun _:Unit=>[rng Value.string (fun p:OV=>eq p.1) g1852.2.2.2.2.2.2.2.2.2.1 q1856.1 (zipK a0.fsenders z1854) [],thg SSnd.O a0.fsenders z1854,blk g1852.1 102 [vS a0.fself,eq g1852.2.1.1,eq g1852.2.2.1.1,eq g1852.2.2.2.1.1,eq g1852.2.2.2.2.1.1,eq g1852.2.2.2.2.2.1.1,eq g1852.2.2.2.2.2.2.1.1,eq g1852.2.2.2.2.2.2.2.1.1,eq g1852.2.2.2.2.2.2.2.2.1.1,eq g1852.2.2.2.2.2.2.2.2.2.1],Ctr.O g1852.2.1 a0.ftick,Ctr.O g1852.2.2.1 a0.fstamps,VView.O g1852.2.2.2.1 a0.fall.fView,Mks.O g1852.2.2.2.2.1 a0.fall.fMarks,TTab.O g1852.2.2.2.2.2.1 a0.fall.fTyping,PTab.O g1852.2.2.2.2.2.2.1 a0.fall.fPresence,DLog.O g1852.2.2.2.2.2.2.2.1 a0.fall.fLog,SMosOf.O g1852.2.2.2.2.2.2.2.2.1 a0.fcome]++F) (gh_of (ok:=fun _=>True) fun R w k=>⟨(),trivial,k⟩) (fun _ _=>?_)
    refine WP.gh (l':=fun _:Unit=>[own strK nilV.1 [],rng Value.string (fun p:OV=>eq p.1) g1852.2.2.2.2.2.2.2.2.2.1 q1856.1 (zipK a0.fsenders z1854) [],thg SSnd.O a0.fsenders z1854,blk g1852.1 102 [vS a0.fself,eq g1852.2.1.1,eq g1852.2.2.1.1,eq g1852.2.2.2.1.1,eq g1852.2.2.2.2.1.1,eq g1852.2.2.2.2.2.1.1,eq g1852.2.2.2.2.2.2.1.1,eq g1852.2.2.2.2.2.2.2.1.1,eq g1852.2.2.2.2.2.2.2.2.1.1,eq g1852.2.2.2.2.2.2.2.2.2.1],Ctr.O g1852.2.1 a0.ftick,Ctr.O g1852.2.2.1 a0.fstamps,VView.O g1852.2.2.2.1 a0.fall.fView,Mks.O g1852.2.2.2.2.1 a0.fall.fMarks,TTab.O g1852.2.2.2.2.2.1 a0.fall.fTyping,PTab.O g1852.2.2.2.2.2.2.1 a0.fall.fPresence,DLog.O g1852.2.2.2.2.2.2.2.1 a0.fall.fLog,SMosOf.O g1852.2.2.2.2.2.2.2.2.1 a0.fcome]++F) (gh_of (st_nil strK none)) (fun _ _=>?_)
    refine WP.block ?_
    refine WP.weak (E':=(fun b:List Nat×OV=>[(3,eq b.2.1),(17,eq q1856.1),(0,eq p0_.1)]) ([],nilV)) (weak_cons rfl (weak_cons rfl (weak_cons rfl weak_nil))) (WP.loop (β:=List Nat×OV) (fun kk b=>b.1.length + kk = a0.fsenders.length) (fun b=>[(3,eq b.2.1),(17,eq q1856.1),(0,eq p0_.1)]) (fun b=>[own strK b.2.1 (selM a0.fsenders (fun e=>some e.1) b.1),rng Value.string (fun p:OV=>eq p.1) g1852.2.2.2.2.2.2.2.2.2.1 q1856.1 (zipK a0.fsenders z1854) b.1,thg SSnd.O a0.fsenders z1854,blk g1852.1 102 [vS a0.fself,eq g1852.2.1.1,eq g1852.2.2.1.1,eq g1852.2.2.2.1.1,eq g1852.2.2.2.2.1.1,eq g1852.2.2.2.2.2.1.1,eq g1852.2.2.2.2.2.2.1.1,eq g1852.2.2.2.2.2.2.2.1.1,eq g1852.2.2.2.2.2.2.2.2.1.1,eq g1852.2.2.2.2.2.2.2.2.2.1],Ctr.O g1852.2.1 a0.ftick,Ctr.O g1852.2.2.1 a0.fstamps,VView.O g1852.2.2.2.1 a0.fall.fView,Mks.O g1852.2.2.2.2.1 a0.fall.fMarks,TTab.O g1852.2.2.2.2.2.1 a0.fall.fTyping,PTab.O g1852.2.2.2.2.2.2.1 a0.fall.fPresence,DLog.O g1852.2.2.2.2.2.2.2.1 a0.fall.fLog,SMosOf.O g1852.2.2.2.2.2.2.2.2.1 a0.fcome]++F) ?_ (k:=a0.fsenders.length) (b:=([],nilV)) (Nat.zero_add _))
    rintro kk ⟨is,v⟩ hk
    replace hk:is.length + kk = a0.fsenders.length:=hk
    refine WP.seq<|rg 2 1<|Dv.rgn (jj:=1) rfl trivial rfl rfl nofun (fun z hz=>?_)
    rcases z with _ | j
    · have hz:is.Perm (List.range (zipK a0.fsenders z1854).length):=hz
      rw [zipK_len h1855.1] at hz
      refine ex0 rfl trivial rfl rfl<|.fin<|WP.seq<|WP.cond rfl nofun (fun _=>WP.exit ?_)
      refine Dn.gh (l':=fun _:Unit=>[own strK v.1 (selM a0.fsenders (fun e=>some e.1) is),rng Value.string (fun p:OV=>eq p.1) g1852.2.2.2.2.2.2.2.2.2.1 q1856.1 (zipK a0.fsenders z1854) is,thg SSnd.O a0.fsenders z1854,blk g1852.1 102 [vS a0.fself,eq g1852.2.1.1,eq g1852.2.2.1.1,eq g1852.2.2.2.1.1,eq g1852.2.2.2.2.1.1,eq g1852.2.2.2.2.2.1.1,eq g1852.2.2.2.2.2.2.1.1,eq g1852.2.2.2.2.2.2.2.1.1,eq g1852.2.2.2.2.2.2.2.2.1.1,eq g1852.2.2.2.2.2.2.2.2.2.1],Ctr.O g1852.2.1 a0.ftick,Ctr.O g1852.2.2.1 a0.fstamps,VView.O g1852.2.2.2.1 a0.fall.fView,Mks.O g1852.2.2.2.2.1 a0.fall.fMarks,TTab.O g1852.2.2.2.2.2.1 a0.fall.fTyping,PTab.O g1852.2.2.2.2.2.2.1 a0.fall.fPresence,DLog.O g1852.2.2.2.2.2.2.2.1 a0.fall.fLog,SMosOf.O g1852.2.2.2.2.2.2.2.2.1 a0.fcome]++F) (gh_of (ok:=fun _=>True) fun R w k=>⟨(),trivial,k⟩) (fun _ _=>?_)
      refine Dn.gh (l':=fun _:Unit=>[mp Value.string (fun p:OV=>eq p.1) g1852.2.2.2.2.2.2.2.2.2.1 (zipK a0.fsenders z1854),own strK v.1 (selM a0.fsenders (fun e=>some e.1) is),thg SSnd.O a0.fsenders z1854,blk g1852.1 102 [vS a0.fself,eq g1852.2.1.1,eq g1852.2.2.1.1,eq g1852.2.2.2.1.1,eq g1852.2.2.2.2.1.1,eq g1852.2.2.2.2.2.1.1,eq g1852.2.2.2.2.2.2.1.1,eq g1852.2.2.2.2.2.2.2.1.1,eq g1852.2.2.2.2.2.2.2.2.1.1,eq g1852.2.2.2.2.2.2.2.2.2.1],Ctr.O g1852.2.1 a0.ftick,Ctr.O g1852.2.2.1 a0.fstamps,VView.O g1852.2.2.2.1 a0.fall.fView,Mks.O g1852.2.2.2.2.1 a0.fall.fMarks,TTab.O g1852.2.2.2.2.2.1 a0.fall.fTyping,PTab.O g1852.2.2.2.2.2.2.1 a0.fall.fPresence,DLog.O g1852.2.2.2.2.2.2.2.1 a0.fall.fLog,SMosOf.O g1852.2.2.2.2.2.2.2.2.1 a0.fcome]++F) (gh_of (st_rge (pm 12 [1,0,2,3,4,5,6,7,8,9,10,11]))) (fun _ _=>?_)
      refine Dn.gh (l':=fun _:Unit=>[mpo Value.string SSnd.O g1852.2.2.2.2.2.2.2.2.2.1 a0.fsenders,own strK v.1 (selM a0.fsenders (fun e=>some e.1) is),blk g1852.1 102 [vS a0.fself,eq g1852.2.1.1,eq g1852.2.2.1.1,eq g1852.2.2.2.1.1,eq g1852.2.2.2.2.1.1,eq g1852.2.2.2.2.2.1.1,eq g1852.2.2.2.2.2.2.1.1,eq g1852.2.2.2.2.2.2.2.1.1,eq g1852.2.2.2.2.2.2.2.2.1.1,eq g1852.2.2.2.2.2.2.2.2.2.1],Ctr.O g1852.2.1 a0.ftick,Ctr.O g1852.2.2.1 a0.fstamps,VView.O g1852.2.2.2.1 a0.fall.fView,Mks.O g1852.2.2.2.2.1 a0.fall.fMarks,TTab.O g1852.2.2.2.2.2.1 a0.fall.fTyping,PTab.O g1852.2.2.2.2.2.2.1 a0.fall.fPresence,DLog.O g1852.2.2.2.2.2.2.2.1 a0.fall.fLog,SMosOf.O g1852.2.2.2.2.2.2.2.2.1 a0.fcome]++F) (gh_of (mpo_shut h1855 rfl (perm_to (L:=[mp Value.string (fun p:OV=>eq p.1) g1852.2.2.2.2.2.2.2.2.2.1 (zipK a0.fsenders z1854),own strK v.1 (selM a0.fsenders (fun e=>some e.1) is),thg SSnd.O a0.fsenders z1854,blk g1852.1 102 [vS a0.fself,eq g1852.2.1.1,eq g1852.2.2.1.1,eq g1852.2.2.2.1.1,eq g1852.2.2.2.2.1.1,eq g1852.2.2.2.2.2.1.1,eq g1852.2.2.2.2.2.2.1.1,eq g1852.2.2.2.2.2.2.2.1.1,eq g1852.2.2.2.2.2.2.2.2.1.1,eq g1852.2.2.2.2.2.2.2.2.2.1],Ctr.O g1852.2.1 a0.ftick,Ctr.O g1852.2.2.1 a0.fstamps,VView.O g1852.2.2.2.1 a0.fall.fView,Mks.O g1852.2.2.2.2.1 a0.fall.fMarks,TTab.O g1852.2.2.2.2.2.1 a0.fall.fTyping,PTab.O g1852.2.2.2.2.2.2.1 a0.fall.fPresence,DLog.O g1852.2.2.2.2.2.2.2.1 a0.fall.fLog,SMosOf.O g1852.2.2.2.2.2.2.2.2.1 a0.fcome]) (F:=F) [0,2,1,3,4,5,6,7,8,9,10,11] (by kernel_rfl) rfl rfl))) (fun _ _=>?_)
      refine Dn.gh (l':=fun _:Unit=>[SSelTicStaAllComSen.O p0_ a0,own strK v.1 (selM a0.fsenders (fun e=>some e.1) is)]++F) (gh_of (SSelTicStaAllComSen.shut (p:=p0_) (m:=a0) (r:=[own strK v.1 (selM a0.fsenders (fun e=>some e.1) is)]++F) (g1852.1,g1852.2.1,g1852.2.2.1,g1852.2.2.2.1,g1852.2.2.2.2.1,g1852.2.2.2.2.2.1,g1852.2.2.2.2.2.2.1,g1852.2.2.2.2.2.2.2.1,g1852.2.2.2.2.2.2.2.2.1,g1852.2.2.2.2.2.2.2.2.2) h1853 (perm_to (L:=[mpo Value.string SSnd.O g1852.2.2.2.2.2.2.2.2.2.1 a0.fsenders,own strK v.1 (selM a0.fsenders (fun e=>some e.1) is),blk g1852.1 102 [vS a0.fself,eq g1852.2.1.1,eq g1852.2.2.1.1,eq g1852.2.2.2.1.1,eq g1852.2.2.2.2.1.1,eq g1852.2.2.2.2.2.1.1,eq g1852.2.2.2.2.2.2.1.1,eq g1852.2.2.2.2.2.2.2.1.1,eq g1852.2.2.2.2.2.2.2.2.1.1,eq g1852.2.2.2.2.2.2.2.2.2.1],Ctr.O g1852.2.1 a0.ftick,Ctr.O g1852.2.2.1 a0.fstamps,VView.O g1852.2.2.2.1 a0.fall.fView,Mks.O g1852.2.2.2.2.1 a0.fall.fMarks,TTab.O g1852.2.2.2.2.2.1 a0.fall.fTyping,PTab.O g1852.2.2.2.2.2.2.1 a0.fall.fPresence,DLog.O g1852.2.2.2.2.2.2.2.1 a0.fall.fLog,SMosOf.O g1852.2.2.2.2.2.2.2.2.1 a0.fcome]) (F:=F) [2,3,4,5,6,7,8,9,10,0,1] (by kernel_rfl) rfl rfl))) (fun _ _=>?_)
      refine Dn.gh (l':=fun _:Unit=>[own strK v.1 (selM a0.fsenders (fun e=>some e.1) is),SSelTicStaAllComSen.O p0_ a0]++F) (gh_of (st_selg (L:=[SSelTicStaAllComSen.O p0_ a0,own strK v.1 (selM a0.fsenders (fun e=>some e.1) is)]) (F:=F) [1,0] 0 rfl rfl rfl)) (fun _ _=>?_)
      exact Jn.mk (is,v) hz (weak_cons rfl (weak_cons rfl weak_nil)) (List.Perm.refl _)
    have hz:j < (zipK a0.fsenders z1854).length∧j ∉ is∧is.length < (zipK a0.fsenders z1854).length:=hz
    obtain ⟨e,p,he,hp,hep⟩:=zipK_get h1855 hz.1
    have hlt:is.length < a0.fsenders.length:=by rw [← zipK_len h1855.1]; exact hz.2.2
    have hsl:=Nat.le_trans (selM_len (m:=a0.fsenders) (f:=(fun e=>some e.1)) (is:=is)) (Nat.le_of_lt hlt)
    have e1:nxV Value.string (fun p:OV=>eq p.1) (zipK a0.fsenders z1854) (some j) = tup [vB true,vS e.1,eq p.1]:=by simp only [nxV,hep]
    rw [e1]
    refine ex0 rfl trivial rfl rfl<|.fin<|WP.seq<|WP.cond rfl (fun _=>WP.skip ?_) nofun
    refine WP.gh (l':=fun _:Unit=>[own strK v.1 (selM a0.fsenders (fun e=>some e.1) is),rng Value.string (fun p:OV=>eq p.1) g1852.2.2.2.2.2.2.2.2.2.1 q1856.1 (zipK a0.fsenders z1854) (is++[j]),thg SSnd.O a0.fsenders z1854,blk g1852.1 102 [vS a0.fself,eq g1852.2.1.1,eq g1852.2.2.1.1,eq g1852.2.2.2.1.1,eq g1852.2.2.2.2.1.1,eq g1852.2.2.2.2.2.1.1,eq g1852.2.2.2.2.2.2.1.1,eq g1852.2.2.2.2.2.2.2.1.1,eq g1852.2.2.2.2.2.2.2.2.1.1,eq g1852.2.2.2.2.2.2.2.2.2.1],Ctr.O g1852.2.1 a0.ftick,Ctr.O g1852.2.2.1 a0.fstamps,VView.O g1852.2.2.2.1 a0.fall.fView,Mks.O g1852.2.2.2.2.1 a0.fall.fMarks,TTab.O g1852.2.2.2.2.2.1 a0.fall.fTyping,PTab.O g1852.2.2.2.2.2.2.1 a0.fall.fPresence,DLog.O g1852.2.2.2.2.2.2.2.1 a0.fall.fLog,SMosOf.O g1852.2.2.2.2.2.2.2.2.1 a0.fcome]++F) (gh_of (ok:=fun _=>True) fun R w k=>⟨(),trivial,k⟩) (fun _ _=>?_)
    refine WP.block<|WP.seq<|rg 3 0<|Dv.rge 1 rfl trivial rfl rfl hep ?_
    refine ex0 rfl trivial rfl rfl<|as0 rfl rfl<|.fin ?_
    have e6:=selM_some (f:=(fun e=>some e.1)) (is:=is) he rfl
    have hbd:(selM a0.fsenders (fun e=>some e.1) is).length + ([e.1]:List ByteArray).length≤9223372036854775807∧((selM a0.fsenders (fun e=>some e.1) is).length + ([e.1]:List ByteArray).length) * 16≤140737488355328:=by rw [List.length_singleton]; omega
    refine rg 5 8<|mv0 rfl rfl<|mv0 rfl rfl<|Dv.lit strK ([e.1]:List ByteArray) (css:=[[vS e.1]]) rfl trivial Tryz.underlying23 Tryz.underlying9 c9 z9 rfl (by decide) (by decide) rfl ⟨(cells_one (one_eq rfl)),trivial⟩ rfl rfl rfl<|ap strK 0 ([e.1]:List ByteArray) src_sl Tryz.underlying23 (.inr ⟨_,Tryz.underlying23⟩) inf9 hbd nofun fun v9=>as0 rfl rfl<|.fin ?_
    rw [e6]
    exact Back.mk (kk - 1) (is++[j],v9) (by omega) (by show (is++[j]).length + (kk - 1) = _; rw [List.length_append,List.length_singleton]; omega) (weak_cons rfl (weak_cons rfl (weak_cons rfl weak_nil))) (List.Perm.refl _)
theorem r01_SameTexts.c {k:Nat} {a0:List ByteArray} {a1:List ByteArray} {r:Bool} (h:r01_SameTexts.f k a0 a1 = some r):Pt Tryz.prog 41 [sl strK a0,sl strK a1] (vB r):=by
 unfold r01_SameTexts.f at h
 refine pb Tryz.func41 Tryz.ntmps41 h fun R0 F H=>?_
 refine WP.seq<|rg 1 0<|as0 rfl rfl<|.fin<|WP.seq<|WP.seq<|rg 5 0<|mv0 rfl rfl<|Dv.lenl rfl trivial rfl Tryz.underlying23<|mv0 rfl rfl<|Dv.lenl rfl trivial rfl Tryz.underlying23<|bn0 rfl rfl rfl run_ne<|.fin<|cd H rfl (fun _ H=>?_) (fun _ H=>?_)
 ·
  refine WP.seq<|rg 1 0<|as0 rfl rfl<|.fin ?_
  cases H.out; exact r0 i2 rfl (.cons (res_tmp rfl) .nil)
 refine WP.skip<|WP.seqr H id (fun p1890:Int×Bool=>[]) (fun p1890:Int×Bool=>F) (fun p1890 H=>?_) (fun H=>?_)
 ·
  refine WP.seq<|rg 1 0<|as0 rfl rfl<|.fin ?_
  cases H.out; exact r0 i2 rfl (.cons (res_tmp rfl) .nil)
 refine WP.seq<|rg 1 0<|as0 rfl rfl<|.fin<|WP.block<|wg (sg 0 [] 0) fun _ _=>?_
 refine lp (fun j_ (p1897:Int)=>r01_SameTexts.l0 k a0 a1 j_ p1897) 0 H (fun p1897=>[(0,sl strK a0),(1,sl strK a1),(5,vI p1897)]) (fun p1897=>F) ?_
 rintro j_ x1891 H
 rcases j_ with _ | j1896
 ·
  exact (Gets.no H).elim
 try dsimp only at H
 rw [r01_SameTexts.l0] at H
 refine WP.seq<|WP.seq<|rg 4 0<|mv0 rfl rfl<|mv0 rfl rfl<|Dv.lenl rfl trivial rfl Tryz.underlying23<|bn0 rfl rfl rfl run_lt<|.fin<|cd H rfl (fun _ H=>?_) (fun _ H=>?_)
 rotate_left
 ·
  refine WP.exit ?_
  have H:=H.out
  exact jn (x1891,decide (x1891 < (a0.length:Int))) H
 refine WP.skip<|WP.seq<|WP.block<|WP.seq<|dg Tryz.checked.mixed 9 0<|mv0 rfl rfl<|mv0 rfl rfl<|gr H fun g1893 H=>Dv.ixr rfl trivial rfl rfl Tryz.underlying23 Tryz.underlying9 c9 g1893.1 g1893.2<|ldR rfl trivial rfl sc9 rfl<|mv0 rfl rfl<|mv0 rfl rfl<|gr H fun g1894 H=>Dv.ixr rfl trivial rfl rfl Tryz.underlying23 Tryz.underlying9 c9 g1894.1 g1894.2<|ldR rfl trivial rfl sc9 rfl<|bn0 rfl rfl rfl run_sne<|.fin<|cd H rfl (fun _ H=>?_) (fun _ H=>?_)
 rotate_left
 ·
  exact WP.skip<|rg 3 0<|mv0 rfl rfl<|bn0 rfl rfl rfl run_add<|as0 rfl rfl<|.fin<|bk j1896 (w64 (x1891 + 1)) H
 refine WP.seq<|rg 1 0<|as0 rfl rfl<|.fin ?_
 have H:=H.outr
 cases H.out; exact r0 i2 rfl (.cons (res_tmp rfl) .nil)
theorem typing_Table_Types.c {k:Nat} {a0:TTab} {a1:ByteArray} {a2:ByteArray} {a3:Int} {v0_0 v0_1:OV} {b0_:Nat} {r:Bool} (h:typing_Table_Types.f k a0 a1 a2 a3 = some r):Tr Tryz.prog 188 [eq (.pointer (some ⟨b0_,0,none⟩)),vS a1,vS a2,vI a3] [blk b0_ 154 [eq v0_0.1,eq v0_1.1],own Edu.K v0_0.1 a0.fl] (γ:=Unit) (fun _=>True) (fun g=>vB r) (fun g=>[blk b0_ 154 [eq v0_0.1,eq v0_1.1],own Edu.K v0_0.1 a0.fl]):=by
 unfold typing_Table_Types.f at h
 refine tb Tryz.func188 Tryz.ntmps188 h fun R0 F H=>?_
 refine WP.seq<|rg 1 0<|as0 rfl rfl<|.fin<|WP.seq<|rg 10 0<|mv0 rfl rfl<|mv0 rfl rfl<|mv0 rfl rfl<|Dv.bld (qs:=[vI 0,vS a1,vS a2,vS (⟨#[]⟩:ByteArray),vS (⟨#[]⟩:ByteArray),vB false,vB false,vI 0,vI 0,vI 0,vI 0]) (css:=[[vS a1],[vS a2]]) rfl trivial Tryz.underlying80 pl80 z80 rfl ⟨(cells_one (one_eq rfl)),⟨(cells_one (one_eq rfl)),trivial⟩⟩ rfl rfl<|el H fun t1898 h1899 H=>cll 2 [0,1] cal209 (typing_Table_place.c h1899 (b0_:=b0_) (v0_0:=v0_0) (v0_1:=v0_1)) ?_
 refine mv0 rfl rfl<|ex0 rfl trivial rfl rfl<|ex0 rfl trivial rfl rfl<|as0 rfl rfl<|as0 rfl rfl<|.fin<|WP.seq<|rg 24 0<|mv0 rfl rfl<|mv0 rfl rfl ?_
 cases c1900:t1898.2
 ·
  have H:=H.cf c1900
  refine sk rfl rfl<|sk rfl rfl<|sk rfl rfl<|sk rfl rfl<|sk rfl rfl<|sk rfl rfl<|sk rfl rfl<|sk rfl rfl<|pf0 rfl rfl rfl<|mv0 rfl rfl<|sk rfl rfl<|sk rfl rfl<|sk rfl rfl<|sk rfl rfl<|sk rfl rfl<|sk rfl rfl<|sk rfl rfl<|sk rfl rfl<|sk rfl rfl<|sk rfl rfl<|pf0 rfl rfl rfl<|as0 rfl rfl<|.fin ?_
  cases H.out; exact rt i2 rfl () 2 [0,1] 0 (.cons (res_tmp rfl) .nil)
 have H:=H.ct c1900
 refine mvg rfl rfl rfl<|Dv.nilp rfl (gg rfl) rfl<|fb rfl (gg rfl) rfl fa154_0<|ld 0 rfl (gg rfl) rfl sc40 rfl rfl<|mvg rfl rfl rfl<|gr H fun g1901 H=>?_
 have h1902:t1898.1.toNat < a0.fl.length:=idx_lt g1901
 refine Dv.ixw rfl (gg rfl) rfl (mem_at 1 rfl) rfl Tryz.underlying40 Tryz.underlying80 c80 g1901.1 g1901.2<|fw rfl (gg rfl) rfl fa80_6<|Dv.ldw (j:=t1898.1.toNat) (f:=6) (p:=vB ((a0.fl.getD t1898.1.toNat default).fOn)) rfl (gg rfl) rfl (mem_at 1 rfl) h1902 Tryz.underlying4 rfl rfl<|pt0 rfl rfl rfl<|mv0 rfl rfl ?_
 cases c1903:(a0.fl.getD t1898.1.toNat default).fOn
 ·
  have H:=H.cf c1903
  refine sk rfl rfl<|sk rfl rfl<|sk rfl rfl<|sk rfl rfl<|sk rfl rfl<|sk rfl rfl<|sk rfl rfl<|sk rfl rfl<|sk rfl rfl<|sk rfl rfl<|pf0 rfl rfl rfl<|as0 rfl rfl<|.fin ?_
  cases H.out; exact rt i2 rfl () 2 [0,1] 0 (.cons (res_tmp rfl) .nil)
 have H:=H.ct c1903
 refine mvg rfl rfl rfl<|mvg rfl rfl rfl<|Dv.nilp rfl (gg rfl) rfl<|fb rfl (gg rfl) rfl fa154_0<|ld 0 rfl (gg rfl) rfl sc40 rfl rfl<|mvg rfl rfl rfl<|gr H fun g1904 H=>?_
 have h1905:t1898.1.toNat < a0.fl.length:=idx_lt g1904
 refine Dv.ixw rfl (gg rfl) rfl (mem_at 1 rfl) rfl Tryz.underlying40 Tryz.underlying80 c80 g1904.1 g1904.2<|Dv.ldws (j:=t1898.1.toNat) (f:=0) rfl (gg rfl) rfl (mem_at 1 rfl) h1905 Tryz.underlying80 rfl c80 (Nat.le_of_ble_eq_true rfl)<|el H fun t1906 h1907 H=>Dv.call rfl (gg rfl) cal213 rfl (typing_end.c h1907)<|bng rfl rfl rfl rfl run_lt<|pt0 rfl rfl rfl<|as0 rfl rfl<|.fin ?_
 cases H.out; exact rt i2 rfl () 2 [0,1] 0 (.cons (res_tmp rfl) .nil)
theorem typing_Table_Users.c {k:Nat} {a0:TTab} {a1:ByteArray} {a2:Int} {v0_0 v0_1:OV} {b0_:Nat} {r:(List ByteArray)} (h:typing_Table_Users.f k a0 a1 a2 = some r):Tr Tryz.prog 116 [eq (.pointer (some ⟨b0_,0,none⟩)),vS a1,vI a2] [blk b0_ 154 [eq v0_0.1,eq v0_1.1],own Edu.K v0_0.1 a0.fl] (γ:=OV) (fun _=>True) (fun g=>eq g.1) (fun g=>[blk b0_ 154 [eq v0_0.1,eq v0_1.1],own Edu.K v0_0.1 a0.fl,own strK g.1 r]):=by
 unfold typing_Table_Users.f at h
 refine tb Tryz.func116 Tryz.ntmps116 h fun R0 F H=>?_
 refine WP.seq<|rg 1 0<|as0 rfl rfl<|.fin<|WP.seq<|rg 1 0<|as0 rfl rfl<|.fin<|WP.seq<|rg 3 0<|mv0 rfl rfl<|Dv.mkc (fst:=#[.pointer (some ⟨b0_,0,none⟩)]) rfl trivial rfl<|as0 rfl rfl<|.fin<|WP.seqn H (fun q1926:(Int×Bool×(List ByteArray))×OV=>q1926.1) (fun q1926:(Int×Bool×(List ByteArray))×OV=>[(7,eq q1926.2.1)]) (fun q1926:(Int×Bool×(List ByteArray))×OV=>[blk b0_ 154 [eq v0_0.1,eq v0_1.1],own Edu.K v0_0.1 a0.fl,own strK q1926.2.1 q1926.1.2.2]++F) (fun q1926 H=>?_) (fun H=>?_)
 ·
  obtain ⟨p1908,v1909⟩:=q1926
  refine WP.seq<|rg 2 0<|mv0 rfl rfl<|as0 rfl rfl<|.fin ?_
  obtain rfl:=Gets.out H
  exact rt i2 rfl v1909 3 [0,1,2] 0 (.cons (res_tmp rfl) .nil)
 refine WP.seq<|rg 6 0<|mv0 rfl rfl<|Dv.nilp rfl trivial rfl<|fb rfl trivial rfl fa154_0<|ld 0 rfl trivial rfl sc40 rfl rfl<|Dv.lenw rfl trivial rfl (mem_at 1 rfl) Tryz.underlying40<|mv0 rfl rfl<|.fin<|WP.block<|wg (st_nil strK none) fun _ _=>?_
 refine wg (sg 3 [1,2,0] 0) fun _ _=>?_
 refine lp (fun j_ (p1925:Int×(List ByteArray)×OV)=>typing_Table_Users.l0 k a0 a1 a2 j_ p1925.1 p1925.2.1) (0,([]:List ByteArray),nilV) H (fun p1925=>[(1,vS a1),(2,vI a2),(7,eq p1925.2.2.1),(8,eq (.func (.func 188) #[.pointer (some ⟨b0_,0,none⟩)] #[])),(16,eq v0_0.1),(17,vI (a0.fl.length:Int)),(18,vI p1925.1)]) (fun p1925=>[blk b0_ 154 [eq v0_0.1,eq v0_1.1],own Edu.K v0_0.1 a0.fl,own strK p1925.2.2.1 p1925.2.1]++F) ?_
 rintro j_ ⟨x1910,x1911,v1912⟩ H
 rcases j_ with _ | j1924
 ·
  exact (Gets.no H).elim
 try dsimp only at H
 rw [typing_Table_Users.l0] at H
 refine WP.seq<|rg 1 0<|bn0 rfl rfl rfl run_lt<|.fin<|WP.seq<|cd H rfl (fun _ H=>?_) (fun _ H=>?_)
 rotate_left
 ·
  refine WP.exit ?_
  have H:=H.out
  exact jn ((x1910,decide (x1910 < (a0.fl.length:Int)),x1911),v1912) H
 refine WP.skip<|WP.seq<|WP.block<|WP.seq<|rg 4 12<|gr H fun g1914 H=>?_
 have h1915:x1910.toNat < a0.fl.length:=idx_lt g1914
 refine Dv.ixw rfl trivial rfl (mem_at 1 rfl) rfl Tryz.underlying40 Tryz.underlying80 c80 g1914.1 g1914.2<|Dv.ldws (j:=x1910.toNat) (f:=0) rfl trivial rfl (mem_at 1 rfl) h1915 Tryz.underlying80 rfl c80 (Nat.le_of_ble_eq_true rfl)<|al rfl trivial zc80 nofun fun b1916=>sx 0 rfl trivial rfl rfl cA sz80 rfl rfl rfl nofun ?_
 refine .fin<|WP.seq<|rg 12 0<|fb rfl trivial rfl fa80_1<|ld 0 rfl trivial rfl sc9 rfl rfl<|mv0 rfl rfl<|bn0 rfl rfl rfl run_seq<|mv0 rfl rfl ?_
 cases c1917:decide (((a0.fl.getD x1910.toNat default).fRoom) = a1)
 ·
  have H:=H.cf c1917
  refine sk rfl rfl<|sk rfl rfl<|sk rfl rfl<|sk rfl rfl<|sk rfl rfl<|sk rfl rfl<|pf0 rfl rfl rfl<|.fin<|WP.cond rfl nofun (fun _=>?_)
  refine WP.skip<|rg 2 0<|bn0 rfl rfl rfl run_add<|mv0 rfl rfl<|.fin<|ng (sg 4 [0,1,2,3] 1) fun _ _=>?_
  exact bk j1924 (w64 (x1910 + 1),x1911,v1912) H
 have H:=H.ct c1917
 refine mvg rfl rfl rfl<|mvg rfl rfl rfl<|fb rfl (gg rfl) rfl fa80_2<|ld 0 rfl (gg rfl) rfl sc9 rfl rfl<|mvg rfl rfl rfl<|el H fun t1918 h1919 H=>Dv.callc (fst:=#[.pointer (some ⟨b0_,0,none⟩)]) (B:=[blk b0_ 154 [eq v0_0.1,eq v0_1.1],own Edu.K v0_0.1 a0.fl]) (F:=[blk b1916 80 (Edu.enc (a0.fl.getD x1910.toNat default)),own strK v1912.1 x1911]++F) rfl (gg rfl) rfl cal188 rfl (typing_Table_Types.c h1919 (b0_:=b0_) (v0_0:=v0_0) (v0_1:=v0_1)) (perm_to (L:=[blk b1916 80 (Edu.enc (a0.fl.getD x1910.toNat default)),blk b0_ 154 [eq v0_0.1,eq v0_1.1],own Edu.K v0_0.1 a0.fl,own strK v1912.1 x1911]) (F:=F) [1,2,0,3] rfl rfl rfl)<|pt0 rfl rfl rfl<|.fin<|cd H rfl (fun _ H=>?_) (fun _ H=>?_)
 rotate_left
 ·
  refine WP.skip<|rg 2 0<|bn0 rfl rfl rfl run_add<|mv0 rfl rfl<|.fin<|ng (sg 4 [0,1,2,3] 1) fun _ _=>?_
  exact bk j1924 (w64 (x1910 + 1),x1911,v1912) H
 refine rg 6 16<|mv0 rfl rfl<|fb rfl trivial rfl fa80_2<|ld 0 rfl trivial rfl sc9 rfl rfl<|Dv.lit strK ([(a0.fl.getD x1910.toNat default).fUser]:List ByteArray) (css:=[[vS ((a0.fl.getD x1910.toNat default).fUser)]]) rfl trivial Tryz.underlying23 Tryz.underlying9 c9 z9 rfl (by decide) (by decide) rfl ⟨(cells_one (one_eq rfl)),trivial⟩ rfl rfl rfl<|gr H fun g1921 H=>ap strK 3 ([(a0.fl.getD x1910.toNat default).fUser]:List ByteArray) src_sl Tryz.underlying23 (.inr ⟨_,Tryz.underlying23⟩) inf9 g1921 nofun fun v1922=>?_
 refine as0 rfl rfl<|.fin<|rg 2 0<|bn0 rfl rfl rfl run_add<|mv0 rfl rfl<|.fin<|ng (sg 4 [0,1,2,3] 1) fun _ _=>?_
 exact bk j1924 (w64 (x1910 + 1),x1911++([(a0.fl.getD x1910.toNat default).fUser]:List ByteArray),v1922) H
theorem sync_Users_1.c {k:Nat} {a0:ByteArray} {cb0_:Nat} {cq0_0 cq0_1 cq0_2 cq0_3 cq0_4:OV} {c0:Src} {c1:ByteArray} {r:Bool} (h:sync_Users_1.f k a0 c0 c1 = some r):Tr Tryz.prog 117 [vS a0,eq (.pointer (some ⟨cb0_,0,none⟩)),rp [vS c1]] [blk cb0_ 99 [eq cq0_0.1,eq cq0_1.1,eq cq0_2.1,eq cq0_3.1,eq cq0_4.1],VView.O cq0_0 c0.fView,Mks.O cq0_1 c0.fMarks,TTab.O cq0_2 c0.fTyping,PTab.O cq0_3 c0.fPresence,DLog.O cq0_4 c0.fLog] (γ:=Unit) (fun _=>True) (fun g=>vB r) (fun g=>[blk cb0_ 99 [eq cq0_0.1,eq cq0_1.1,eq cq0_2.1,eq cq0_3.1,eq cq0_4.1],VView.O cq0_0 c0.fView,Mks.O cq0_1 c0.fMarks,TTab.O cq0_2 c0.fTyping,PTab.O cq0_3 c0.fPresence,DLog.O cq0_4 c0.fLog]):=by
 unfold sync_Users_1.f at h
 refine tb Tryz.func117 Tryz.ntmps117 h fun R0 F H=>?_
 refine WP.seq<|rg 1 0<|as0 rfl rfl<|.fin<|WP.seq<|rg 7 0<|fb rfl trivial rfl fa99_0<|ld 0 rfl trivial rfl sc33 rfl rfl<|ldR rfl trivial rfl sc9 rfl<|mv0 rfl rfl<|vg (VView.opn 1 rfl) fun g1927 h1928=>?_
 refine el H fun t1929 h1930 H=>cll 7 [0,1,2,3,4,5,6] cal118 (Tr.weak (view_View_Joined.c h1930 (b0_:=g1927.1) (v0_0:=g1927.2)) (.cons (wk_ptr h1928) (.cons wk_id (.cons wk_id .nil)))) ?_
 refine un0 rfl rfl (run_not _)<|as0 rfl rfl<|.fin<|wg (VView.shut (p:=cq0_0) (m:=c0.fView) (g1927.1,g1927.2) h1928 (pm 7 [0,1,2,3,4,5,6])) fun _ _=>?_
 cases H.out; exact rt i2 rfl () 6 [1,0,2,3,4,5] 0 (.cons (res_tmp rfl) .nil)
theorem sync_Users.c {k:Nat} {a0:Src} {a1:ByteArray} {a2:Int} {p0_0 p0_1 p0_2 p0_3 p0_4:OV} {r:(List ByteArray)} (h:sync_Users.f k a0 a1 a2 = some r):Tr Tryz.prog 70 [agg [eq p0_0.1,eq p0_1.1,eq p0_2.1,eq p0_3.1,eq p0_4.1],vS a1,vI a2] [VView.O p0_0 a0.fView,Mks.O p0_1 a0.fMarks,TTab.O p0_2 a0.fTyping,PTab.O p0_3 a0.fPresence,DLog.O p0_4 a0.fLog] (γ:=Unit) (fun _=>True) (fun g=>sl strK r) (fun g=>[VView.O p0_0 a0.fView,Mks.O p0_1 a0.fMarks,TTab.O p0_2 a0.fTyping,PTab.O p0_3 a0.fPresence,DLog.O p0_4 a0.fLog]):=by
 unfold sync_Users.f at h
 refine tb Tryz.func70 Tryz.ntmps70 h fun R0 F H=>?_
 refine WP.seq<|rg 3 3<|Dv.box rfl trivial rfl cA nofun fun b1931=>Dv.box rfl trivial rfl cE nofun fun b1932=>as0 rfl rfl<|.fin<|WP.seq<|rg 8 80<|fb rfl trivial rfl fa99_2<|ld 1 rfl trivial rfl sc94 rfl rfl<|ld 0 rfl trivial rfl sc9 rfl rfl<|mv0 rfl rfl<|vg (TTab.opn 4 rfl) fun g1933 h1934=>?_
 refine el H fun t1935 h1936 H=>cx 9 [0,1,2,3,4,5,6,7,8] cal116 (Tr.weak (typing_Table_Users.c h1936 (b0_:=g1933.1) (v0_0:=g1933.2.1) (v0_1:=g1933.2.2)) (.cons (wk_ptr h1934) (.cons wk_id (.cons wk_id .nil)))) nofun fun g1937 _=>?_
 refine vg (TTab.shut (p:=p0_2) (m:=a0.fTyping) (g1933.1,g1933.2.1,g1933.2.2) h1934 (pm 10 [0,1,3,2,4,5,6,7,8,9])) fun _ _=>?_
 refine Dv.gh (gh_frzb (E':=[(0,agg [eq p0_0.1,eq p0_1.1,eq p0_2.1,eq p0_3.1,eq p0_4.1]),(1,vS a1),(2,vI a2),(3,eq (.pointer (some ⟨b1931,0,none⟩))),(4,rp [vS a1]),(6,eq (.slice none 0 0)),(11,eq g1937.1)]) (l':=[TTab.O p0_2 a0.fTyping,own strK g1937.1 t1935,blk b1931 99 [eq p0_0.1,eq p0_1.1,eq p0_2.1,eq p0_3.1,eq p0_4.1],VView.O p0_0 a0.fView,Mks.O p0_1 a0.fMarks,PTab.O p0_3 a0.fPresence,DLog.O p0_4 a0.fLog]++F) 2 rfl (cve_cons rfl cv_id (cve_cons rfl cv_id (cve_cons rfl cv_id (cve_cons rfl cv_id (cve_cons rfl cv_eq (cve_cons rfl cv_id (cve_cons rfl cv_id cve_nil))))))) (all2_app (.cons cva_id (.cons cva_id (.cons cva_id (.cons cva_id (.cons cva_id (.cons cva_id (.cons cva_id .nil))))))) fun _=>cva_id)) (fun _ _=>?_)
 refine Dv.mkx (Q:=fqQ_string_bool (fun a0_=>sync_Users_1.f k a0_ a0 a1)) (L:=[blk b1931 99 [eq p0_0.1,eq p0_1.1,eq p0_2.1,eq p0_3.1,eq p0_4.1],VView.O p0_0 a0.fView,Mks.O p0_1 a0.fMarks,TTab.O p0_2 a0.fTyping,PTab.O p0_3 a0.fPresence,DLog.O p0_4 a0.fLog]) cal117 (by rintro _ _ ⟨a0_,r_,h_,rfl,rfl⟩; exact sync_Users_1.c h_ (cb0_:=b1931) (cq0_0:=p0_0) (cq0_1:=p0_1) (cq0_2:=p0_2) (cq0_3:=p0_3) (cq0_4:=p0_4)) rfl trivial rfl rfl<|el H fun t1938 h1939 H=>cx 7 [1,2,3,4,0,5,6] cal115 (Tr.unpko (A:=[own strK g1937.1 t1935]) (L:=[blk b1931 99 [eq p0_0.1,eq p0_1.1,eq p0_2.1,eq p0_3.1,eq p0_4.1],VView.O p0_0 a0.fView,Mks.O p0_1 a0.fMarks,TTab.O p0_2 a0.fTyping,PTab.O p0_3 a0.fPresence,DLog.O p0_4 a0.fLog]) (B:=fun g1940:OV=>[own strK g1940.1 t1938]) (slices_DeleteFunc_string_xo.c h1939 (p0_:=g1937) (X1_:=(pk [blk b1931 99 [eq p0_0.1,eq p0_1.1,eq p0_2.1,eq p0_3.1,eq p0_4.1],VView.O p0_0 a0.fView,Mks.O p0_1 a0.fMarks,TTab.O p0_2 a0.fTyping,PTab.O p0_3 a0.fPresence,DLog.O p0_4 a0.fLog])))) nofun fun g1940 _=>?_
 refine as0 rfl rfl<|.fin<|WP.gh (gh_frz (E':=[(6,sl strK t1938)]) (l':=[blk b1931 99 [eq p0_0.1,eq p0_1.1,eq p0_2.1,eq p0_3.1,eq p0_4.1],VView.O p0_0 a0.fView,Mks.O p0_1 a0.fMarks,TTab.O p0_2 a0.fTyping,PTab.O p0_3 a0.fPresence,DLog.O p0_4 a0.fLog]++F) 6 rfl (cve_cons rfl cv_eq cve_nil) (all2_app (.cons cva_id (.cons cva_id (.cons cva_id (.cons cva_id (.cons cva_id (.cons cva_id .nil)))))) fun _=>cva_id)) (fun _ _=>?_)
 cases H.out; exact rt i2 rfl () 6 [0,1,2,3,4,5] 1 (.cons (res_tmp rfl) .nil)
theorem server_Server_Typing.c {k:Nat} {a0:SSelTicStaAllComSen} {a1:ByteArray} {p0_:OV} {r:(List ByteArray)} (h:server_Server_Typing.f k a0 a1 = some r):Tr Tryz.prog 42 [eq p0_.1,vS a1] [SSelTicStaAllComSen.O p0_ a0] (γ:=Unit) (fun _=>True) (fun g=>sl strK r) (fun g=>[SSelTicStaAllComSen.O p0_ a0]):=by
 unfold server_Server_Typing.f at h
 refine tb Tryz.func42 Tryz.ntmps42 h fun R0 F H=>?_
 refine WP.seq<|rg 1 0<|as0 rfl rfl<|.fin<|WP.seq<|wg (SSelTicStaAllComSen.opn 0 rfl) fun g1941 h1942=>?_
 refine dg Tryz.checked.mixed 9 128<|mv0 rfl rfl<|Dv.nilpp h1942 rfl trivial rfl<|fp h1942 rfl trivial rfl fa102_3<|lds 0 rfl trivial rfl sg99 rfl rfl<|mv0 rfl rfl<|mv0 rfl rfl<|el H fun t1943 h1944 H=>cll 10 [0,1,2,3,4,5,6,7,8,9] cal9 (Tr.weak (server_Server_Tick_o.c (b:=g1941.1) (qs:=[vS a0.fself,eq g1941.2.1.1,eq g1941.2.2.1.1,eq g1941.2.2.2.1.1,eq g1941.2.2.2.2.1.1,eq g1941.2.2.2.2.2.1.1,eq g1941.2.2.2.2.2.2.1.1,eq g1941.2.2.2.2.2.2.2.1.1,eq g1941.2.2.2.2.2.2.2.2.1.1,eq g1941.2.2.2.2.2.2.2.2.2.1]) (p:=g1941.2.1) rfl h1944) (.cons (wk_ptr h1942) .nil)) ?_
 refine el H fun t1945 h1946 H=>cx 10 [3,4,5,6,7,0,1,2,8,9] cal70 (sync_Users.c h1946 (p0_0:=g1941.2.2.2.1) (p0_1:=g1941.2.2.2.2.1) (p0_2:=g1941.2.2.2.2.2.1) (p0_3:=g1941.2.2.2.2.2.2.1) (p0_4:=g1941.2.2.2.2.2.2.2.1)) pC fun _ _=>?_
 refine as0 rfl rfl<|.fin<|wg (SSelTicStaAllComSen.shut (p:=p0_) (m:=a0) (g1941.1,g1941.2.1,g1941.2.2.1,g1941.2.2.2.1,g1941.2.2.2.2.1,g1941.2.2.2.2.2.1,g1941.2.2.2.2.2.2.1,g1941.2.2.2.2.2.2.2.1,g1941.2.2.2.2.2.2.2.2.1,g1941.2.2.2.2.2.2.2.2.2) h1942 (pm 10 [5,6,7,0,1,2,3,4,8,9])) fun _ _=>?_
 cases H.out; exact rt i2 rfl () 1 [0] 0 (.cons (res_tmp rfl) .nil)
theorem w22_lives.c {k:Nat} {r:Bool} (h:w22_lives.f k = some r):Tr Tryz.prog 13 [] [lax] (γ:=Unit) (fun _=>True) (fun g=>vB r) (fun g=>[lax]):=by
 unfold w22_lives.f at h
 refine tb Tryz.func13 Tryz.ntmps13 h fun R0 F H=>?_
 refine WP.seq<|rg 1 0<|as0 rfl rfl<|.fin<|WP.seq<|rg 6 1<|el H fun t1947 h1948 H=>cx 1 [0] cal6 (server_New.c h1948) nofun fun g1949 _=>?_
 refine mv0 rfl rfl<|ex0 rfl trivial rfl rfl<|ex0 rfl trivial rfl rfl<|as0 rfl rfl<|as0 rfl rfl<|.fin<|WP.seq<|WP.seq<|rg 6 0<|mv0 rfl rfl<|Dv.oeq0 (fun _=>SSelTicStaAllComSen.nn) rfl trivial rfl rfl Tryz.underlying25 (mem_at 0 rfl)<|mv0 rfl rfl ?_
 rcases bem t1947.1.isNone with c1950 | c1950
 rotate_left
 ·
  have H:=H.ct c1950
  refine Dv.gh (gh_sh 10 c1950 rfl) (fun _ _=>?_)
  refine Dv.gh (gh_sh 11 c1950 rfl) (fun _ _=>?_)
  refine sk rfl rfl<|sk rfl rfl<|pt0 rfl rfl rfl<|.fin<|WP.cond rfl (fun _=>?_) nofun
  refine WP.seq<|rg 1 0<|as0 rfl rfl<|.fin ?_
  cases H.out; exact rt i2 rfl () 2 [0,1] 1 (.cons (res_tmp rfl) .nil)
 have H:=H.cf c1950
 refine Dv.gh (gh_sh 10 c1950 rfl) (fun _ _=>?_)
 refine Dv.gh (gh_sh 11 c1950 rfl) (fun _ _=>?_)
 refine mvg rfl rfl rfl<|bng rfl rfl rfl rfl run_ne<|pf0 rfl rfl rfl<|.fin<|cd H rfl (fun _ H=>?_) (fun _ H=>?_)
 ·
  refine WP.seq<|wg (opt_some 0 rfl c1950) fun _ _=>?_
  refine rg 1 0<|as0 rfl rfl<|.fin ?_
  cases H.out; exact rt i2 rfl () 2 [0,1] 1 (.cons (res_tmp rfl) .nil)
 refine WP.skip<|WP.seq<|wg (opt_some 0 rfl c1950) fun _ _=>?_
 refine rg 3 4<|mv0 rfl rfl<|Dv.bld (qs:=[vS (⟨#[36,97]⟩:ByteArray),vS (⟨#[33,114,58,115]⟩:ByteArray),eq (.slice none 0 0),vS (⟨#[]⟩:ByteArray),vS (⟨#[64,97,58,115]⟩:ByteArray),vI 1]) (css:=[[vS (⟨#[36,97]⟩:ByteArray)],[vS (⟨#[33,114,58,115]⟩:ByteArray)],[vS (⟨#[64,97,58,115]⟩:ByteArray)],[vI 1]]) rfl trivial Tryz.underlying107 pl107 z107 rfl ⟨(cells_one (one_eq rfl)),⟨(cells_one (one_eq rfl)),⟨(cells_one (one_eq rfl)),⟨(cells_one (one_eq rfl)),trivial⟩⟩⟩⟩ rfl rfl<|el H fun t1953 h1954 H=>cx 2 [1,0] cal38 (Tr.weak (server_Server_Event.c h1954 (p0_:=g1949)) (.cons wk_id (.cons (wk_agg (.cons wk_id (.cons wk_id (.cons wk_nil (.cons wk_id (.cons wk_id (.cons wk_id .nil))))))) .nil))) nofun fun _ _=>?_
 refine .fin<|WP.seq<|rg 3 4<|mv0 rfl rfl<|Dv.bld (qs:=[vS (⟨#[36,98]⟩:ByteArray),vS (⟨#[33,114,58,115]⟩:ByteArray),eq (.slice none 0 0),vS (⟨#[]⟩:ByteArray),vS (⟨#[64,98,58,116]⟩:ByteArray),vI 1]) (css:=[[vS (⟨#[36,98]⟩:ByteArray)],[vS (⟨#[33,114,58,115]⟩:ByteArray)],[vS (⟨#[64,98,58,116]⟩:ByteArray)],[vI 1]]) rfl trivial Tryz.underlying107 pl107 z107 rfl ⟨(cells_one (one_eq rfl)),⟨(cells_one (one_eq rfl)),⟨(cells_one (one_eq rfl)),⟨(cells_one (one_eq rfl)),trivial⟩⟩⟩⟩ rfl rfl<|el H fun t1955 h1956 H=>cx 2 [0,1] cal38 (Tr.weak (server_Server_Event.c h1956 (p0_:=g1949)) (.cons wk_id (.cons (wk_agg (.cons wk_id (.cons wk_id (.cons wk_nil (.cons wk_id (.cons wk_id (.cons wk_id .nil))))))) .nil))) nofun fun _ _=>?_
 refine .fin<|WP.seq<|rg 3 2<|mv0 rfl rfl<|el H fun t1957 h1958 H=>cx 2 [0,1] cal39 (server_Server_Type.c h1958 (p0_:=g1949)) nofun fun _ _=>?_
 refine as0 rfl rfl<|.fin<|WP.seq<|rg 3 2<|mv0 rfl rfl<|el H fun t1959 h1960 H=>cx 2 [1,0] cal40 (server_Server_Send.c h1960 (p0_:=g1949)) nofun fun g1961 _=>?_
 refine as0 rfl rfl<|.fin<|WP.seq<|rg 19 16896<|mv0 rfl rfl<|bn0 rfl rfl rfl run_eq<|mv0 rfl rfl ?_
 rcases bem (t1957.1 == 0) with c1962 | c1962
 ·
  have H:=H.cf c1962
  refine Dv.gh (gh_sh 26 c1962 rfl) (fun _ _=>?_)
  refine Dv.gh (gh_sh 27 c1962 rfl) (fun _ _=>?_)
  refine sk rfl rfl<|sk rfl rfl<|sk rfl rfl<|pf0 rfl rfl rfl<|mv0 rfl rfl<|sk rfl rfl<|Dv.skipb rfl ⟨_,_,rfl,rfl,.inl rfl⟩ nofun<|sk rfl rfl<|pf0 rfl rfl rfl<|mv0 rfl rfl<|sk rfl rfl<|Dv.skipb rfl ⟨_,_,rfl,rfl,.inl rfl⟩ nofun<|sk rfl rfl<|sk rfl rfl<|pf0 rfl rfl rfl<|as0 rfl rfl<|.fin ?_
  cases H.out; exact rt i2 rfl () 3 [0,1,2] 2 (.cons (res_tmp rfl) .nil)
 have H:=H.ct c1962
 refine Dv.gh (gh_sh 26 c1962 rfl) (fun _ _=>?_)
 refine Dv.gh (gh_sh 27 c1962 rfl) (fun _ _=>?_)
 refine mvg rfl rfl rfl<|Dv.lenw rfl (gg rfl) rfl (mem_at 1 rfl) Tryz.underlying109<|bng rfl rfl rfl rfl run_eq<|pt0 rfl rfl rfl<|mv0 rfl rfl ?_
 rcases bem ((t1959.1.length:Int) == 1) with c1963 | c1963
 ·
  have H:=H.cf c1963
  refine Dv.gh (gh_sh 30 c1963 rfl) (fun _ _=>?_)
  refine Dv.gh (gh_sh 31 c1963 rfl) (fun _ _=>?_)
  refine Dv.gh (gh_sh 32 c1963 rfl) (fun _ _=>?_)
  refine sk rfl rfl<|Dv.skipb rfl ⟨_,_,rfl,rfl,.inl rfl⟩ nofun<|sk rfl rfl<|pf0 rfl rfl rfl<|mv0 rfl rfl<|sk rfl rfl<|Dv.skipb rfl ⟨_,_,rfl,rfl,.inl rfl⟩ nofun<|sk rfl rfl<|sk rfl rfl<|pf0 rfl rfl rfl<|as0 rfl rfl<|.fin ?_
  cases H.out; exact rt i2 rfl () 3 [0,1,2] 2 (.cons (res_tmp rfl) .nil)
 have H:=H.ct c1963
 refine Dv.gh (gh_sh 30 c1963 rfl) (fun _ _=>?_)
 refine Dv.gh (gh_sh 31 c1963 rfl) (fun _ _=>?_)
 refine Dv.gh (gh_sh 32 c1963 rfl) (fun _ _=>?_)
 refine mvg rfl rfl rfl<|el H fun t1964 h1965 H=>cx 3 [0,1,2] cal11 (server_Server_Idle.c h1965 (p0_:=g1949)) nofun fun _ _=>?_
 refine ung rfl rfl rfl (run_not _)<|pt0 rfl rfl rfl<|mv0 rfl rfl ?_
 rcases bem (!t1964) with c1966 | c1966
 ·
  have H:=H.cf c1966
  refine Dv.gh (gh_sh 35 c1966 rfl) (fun _ _=>?_)
  refine Dv.gh (gh_sh 36 c1966 rfl) (fun _ _=>?_)
  refine Dv.gh (gh_sh 37 c1966 rfl) (fun _ _=>?_)
  refine sk rfl rfl<|Dv.skipb rfl ⟨_,_,rfl,rfl,.inl rfl⟩ nofun<|sk rfl rfl<|sk rfl rfl<|pf0 rfl rfl rfl<|as0 rfl rfl<|.fin ?_
  cases H.out; exact rt i2 rfl () 3 [0,1,2] 2 (.cons (res_tmp rfl) .nil)
 have H:=H.ct c1966
 refine Dv.gh (gh_sh 35 c1966 rfl) (fun _ _=>?_)
 refine Dv.gh (gh_sh 36 c1966 rfl) (fun _ _=>?_)
 refine Dv.gh (gh_sh 37 c1966 rfl) (fun _ _=>?_)
 refine mvg rfl rfl rfl<|el H fun t1967 h1968 H=>cx 3 [0,1,2] cal42 (server_Server_Typing.c h1968 (p0_:=g1949)) nofun fun _ _=>?_
 refine Dv.lit strK ([(⟨#[64,97,58,115]⟩:ByteArray)]:List ByteArray) (css:=[[vS (⟨#[64,97,58,115]⟩:ByteArray)]]) rfl (gg rfl) Tryz.underlying23 Tryz.underlying9 c9 z9 rfl (by decide) (by decide) rfl ⟨(cells_one (one_eq rfl)),trivial⟩ rfl rfl rfl<|el H fun t1969 h1970 H=>Dv.call rfl (gg rfl) cal41 rfl (r01_SameTexts.c h1970)<|pt0 rfl rfl rfl<|as0 rfl rfl<|.fin ?_
 cases H.out; exact rt i2 rfl () 3 [0,1,2] 2 (.cons (res_tmp rfl) .nil)
end Go.Proofs.YtelcbdmigiacpaaGreat
