import Derived.Test.YtmmaijneehmbgaaGreatZOk
import Derived.Test.YtmmaijneehmbgaaGreatConV
set_option linter.all false
set_option maxRecDepth 10000
namespace Go.Proofs.YtmmaijneehmbgaaGreat
open Go Go.Sp
def I64 (n:Int):Prop:=-9223372036854775808≤n∧n≤9223372036854775807
theorem around_ev {n m:Int} (hn:I64 n) (h0:0<m) (hm:m≤9223372036854775807):∃ r,r01_Around.f n m=some r∧0≤r∧r<m:=by
 obtain ⟨h1,h2⟩:=hn
 unfold r01_Around.f
 have hne:m≠0:=by omega
 by_cases h:n<0
 ·rw [decide_eq_true h,w64_id (x:=n+1) (by omega) (by omega),w64_id (by omega) (by omega)]
  refine ⟨(0-(n+1)).tmod m,by simp only [cond_true,grd,if_pos hne],?_⟩
  rw [Int.tmod_eq_emod_of_nonneg (by omega)]
  exact ⟨Int.emod_nonneg _ hne,Int.emod_lt_of_pos _ h0⟩
 ·rw [decide_eq_false h]
  refine ⟨n.tmod m,by simp only [cond_false,grd,if_pos hne],?_⟩
  rw [Int.tmod_eq_emod_of_nonneg (by omega)]
  exact ⟨Int.emod_nonneg _ hne,Int.emod_lt_of_pos _ h0⟩
def rooms:List ByteArray:=[⟨#[33,114,58,115,49]⟩,⟨#[33,113,58,115,50]⟩]
def users:List ByteArray:=[⟨#[64,97,58,115,49]⟩,⟨#[64,97,58,115,50]⟩,⟨#[64,97,58,115,51]⟩,⟨#[64,98,58,115,49]⟩,⟨#[64,98,58,115,50]⟩,⟨#[64,98,58,115,51]⟩,⟨#[64,99,58,115,49]⟩,⟨#[64,99,58,115,50]⟩,⟨#[64,99,58,115,51]⟩]
theorem int_lt {r:Int} {n:Nat} (h0:0≤r) (h1:r<n):∃ k:Nat,k<n∧r=(k:Int):=⟨r.toNat,by omega,by omega⟩
theorem roomOf_ev {n:Int} (hn:I64 n):∃ r,r01_RoomOf.f n=some r∧r∈rooms:=by
 obtain ⟨m,h1,h2,h3⟩:=around_ev (m:=2) hn (by decide) (by decide)
 unfold r01_RoomOf.f
 rw [h1]
 obtain ⟨k,hk,rfl⟩:=int_lt (n:=2) h2 h3
 have:∀ k:Nat,k<2→∃ r,((some (k:Int)).bind fun t340=>grd ((0:Int)≤t340∧t340<(([(⟨#[33,114,58,115,49]⟩:ByteArray),(⟨#[33,113,58,115,50]⟩:ByteArray)]:List ByteArray).length:Int)) (some (strK.at ([(⟨#[33,114,58,115,49]⟩:ByteArray),(⟨#[33,113,58,115,50]⟩:ByteArray)]:List ByteArray) t340)))=some r∧r∈rooms:=by
  intro k hk
  match k,hk with
  | 0,_=>exact ⟨_,rfl,List.mem_of_getElem? (i:=0) rfl⟩
  | 1,_=>exact ⟨_,rfl,List.mem_of_getElem? (i:=1) rfl⟩
 exact this k hk
theorem userOf_at:∀ k:Nat,k<9→∃ r,r01_UserOf.f (k:Int)=some r∧users[k]? = some r:=by
 intro k hk
 match k,hk with
 | 0,_=>exact ⟨_,rfl,rfl⟩
 | 1,_=>exact ⟨_,rfl,rfl⟩
 | 2,_=>exact ⟨_,rfl,rfl⟩
 | 3,_=>exact ⟨_,rfl,rfl⟩
 | 4,_=>exact ⟨_,rfl,rfl⟩
 | 5,_=>exact ⟨_,rfl,rfl⟩
 | 6,_=>exact ⟨_,rfl,rfl⟩
 | 7,_=>exact ⟨_,rfl,rfl⟩
 | 8,_=>exact ⟨_,rfl,rfl⟩
theorem around_small {k m:Nat} (h:k<m) (hm:0<m):r01_Around.f (k:Int) (m:Int)=some (k:Int):=by
 unfold r01_Around.f
 have:¬ ((k:Int)<0):=by omega
 have hne:(m:Int)≠0:=by omega
 rw [decide_eq_false this]
 simp only [cond_false,grd,if_pos hne]
 rw [Int.tmod_eq_emod_of_nonneg (by omega),Int.emod_eq_of_lt (by omega) (by omega)]
theorem userOf_ev {n:Int} (hn:I64 n):∃ r,r01_UserOf.f n=some r∧r∈users:=by
 obtain ⟨m,h1,h2,h3⟩:=around_ev (m:=9) hn (by decide) (by decide)
 obtain ⟨k,hk,rfl⟩:=int_lt (n:=9) h2 h3
 obtain ⟨r,hr,hu⟩:=userOf_at k hk
 refine ⟨r,?_,List.mem_of_getElem? hu⟩
 rw [← hr]
 unfold r01_UserOf.f
 rw [h1,show (9:Int)=((9:Nat):Int) from rfl,around_small hk (by decide)]
theorem i64_of {n:Int} (h:(Lit.int .i64 n).wf=true):I64 n:=by
 have h':IntKind.i64.min≤n∧n≤9223372036854775807:=by simpa [Lit.wf] using h
 have e:IntKind.i64.min = -9223372036854775808:=by decide
 unfold I64
 omega
end Go.Proofs.YtmmaijneehmbgaaGreat
