import Derived.Test.YtmmaijneehmbgaaGreatZOk
import Derived.Test.YtmmaijneehmbgaaGreatConV
set_option linter.all false
set_option maxRecDepth 10000
namespace Go.Proofs.YtmmaijneehmbgaaGreat
open Go Go.Sp
def rooms:List ByteArray:=[⟨#[33,114,58,115,49]⟩,⟨#[33,113,58,115,50]⟩]
def users:List ByteArray:=[⟨#[64,97,58,115,49]⟩,⟨#[64,97,58,115,50]⟩,⟨#[64,97,58,115,51]⟩,⟨#[64,98,58,115,49]⟩,⟨#[64,98,58,115,50]⟩,⟨#[64,98,58,115,51]⟩,⟨#[64,99,58,115,49]⟩,⟨#[64,99,58,115,50]⟩,⟨#[64,99,58,115,51]⟩]
theorem userOf_at:∀ k:Nat,k < 9→∃ r,r01_UserOf.f (k:Int) = some r∧users[k]? = some r:=by
 intro k hk
 match k,hk with
 | 0,_=>exact ⟨_,rfl,rfl⟩
 | 1,_=>exact ⟨_,rfl,rfl⟩
 | 2,_=>exact ⟨_,rfl,rfl⟩
 | 3,_=>exact ⟨_,rfl,rfl⟩
 | 4,_=>exact ⟨_,rfl,rfl⟩
 | 5,_=>exact ⟨_,rfl,rfl⟩
 | 6,_=>exact ⟨_,rfl,rfl⟩
 | 7,_=>exact ⟨_,rfl,rfl⟩
 | 8,_=>exact ⟨_,rfl,rfl⟩
end Go.Proofs.YtmmaijneehmbgaaGreat
