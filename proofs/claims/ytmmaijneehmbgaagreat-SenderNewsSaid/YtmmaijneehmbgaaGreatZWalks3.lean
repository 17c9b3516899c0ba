import Derived.Test.YtmmaijneehmbgaaGreatZWalks2
import Derived.Test.YtmmaijneehmbgaaGreatConQ
import Derived.Test.YtmmaijneehmbgaaGreatConA6
import Derived.Eval
set_option linter.all false
set_option maxRecDepth 10000
set_option maxHeartbeats 20000000
namespace Go.Proofs.YtmmaijneehmbgaaGreat
open Go Go.Sp
theorem r01_Few.c {a0:ByteArray} {a1:Int} {r:ByteArray} (h:r01_Few.f a0 a1 = some r):Pt Tryz.prog 22 [vS a0,vI a1] (vS r):=by
 unfold r01_Few.f at h
 refine pb Tryz.func22 Tryz.ntmps22 h fun R0 F H=>?_
 refine WP.seq<|rg 1 0<|as0 rfl rfl<|.fin<|WP.seq<|WP.seq<|rg 4 0<|mv0 rfl rfl<|Dv.lens rfl trivial rfl Tryz.underlying9<|mv0 rfl rfl<|bn0 rfl rfl rfl run_gt<|.fin<|cd H rfl (fun _ H=>?_) (fun _ H=>?_)
 rotate_left
 ·
  refine WP.skip<|WP.seq<|rg 2 0<|mv0 rfl rfl<|as0 rfl rfl<|.fin ?_
  cases H.out; exact r0 i2 rfl (.cons (res_tmp rfl) .nil)
 refine WP.seq<|rg 4 0<|mv0 rfl rfl<|mv0 rfl rfl<|gr H fun g2490 H=>Dv.sss rfl trivial rfl Tryz.underlying9 bdE_none (bdE_some rfl g2490.1) g2490.2.1 g2490.2.2<|as0 rfl rfl<|.fin ?_
 cases H.out; exact r0 i2 rfl (.cons (res_tmp rfl) .nil)
end Go.Proofs.YtmmaijneehmbgaaGreat
