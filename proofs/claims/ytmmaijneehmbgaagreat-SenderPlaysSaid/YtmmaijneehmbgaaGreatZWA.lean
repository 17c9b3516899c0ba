import Derived.Test.YtmmaijneehmbgaaGreatZVH
import Derived.Test.YtmmaijneehmbgaaGreatZMJ
set_option linter.all false
set_option maxRecDepth 10000
namespace Go.Proofs.YtmmaijneehmbgaaGreat
open Go Go.Sp
theorem rg_of {m:DDag} {d:RDag} (h:RelT m d) (hl:d.fL.length≤1000):RG d.fL:=⟨h.good,h.par,h.does,h.usr,hl⟩
def rms (w:RView):List ByteArray:=w.fD.map (·.fRoom)
theorem vkeys {v:VView} {w:RView} (hr:RelV v w) (u:ByteArray):u∈v.fdags.map (·.1)↔u∈rms w:=by
 rw [mget_some]
 by_cases h:∃ d∈w.fD,d.fRoom=u
 ·obtain ⟨d,hd,rfl⟩:=h
  obtain ⟨m,h1,_⟩:=hr.got d hd
  rw [h1]
  exact ⟨fun _=>List.mem_map.2 ⟨d,hd,rfl⟩,fun _=>rfl⟩
 ·have h2:=hr.non u fun d hd he=>h ⟨d,hd,he⟩
  rw [h2]
  exact ⟨fun k=>(by cases k),fun k=>by obtain ⟨d,hd,he⟩:=List.mem_map.1 k; exact absurd ⟨d,hd,he⟩ h⟩
theorem vrooms_ev {v:VView} {w:RView} (hr:RelV v w) (hl:w.fD.length≤1000):view_View_Rooms.f v=some (rms w):=by
 have hp:(v.fdags.map (·.1)).Perm (rms w):=(List.perm_ext_iff_of_nodup hr.ndv hr.nd).2 (vkeys hr)
 have hlen:v.fdags.length=w.fD.length:=by have:=hp.length_eq; unfold rms at this; rwa [List.length_map,List.length_map] at this
 have e:srtS (v.fdags.map (·.1))=rms w:=srtT_ext (srtS_nodup hr.ndv) hr.srt fun u=>by rw [srtS_mem,vkeys hr]
 unfold view_View_Rooms.f
 simp only [grd]
 rw [if_pos (by omega),e]
end Go.Proofs.YtmmaijneehmbgaaGreat
