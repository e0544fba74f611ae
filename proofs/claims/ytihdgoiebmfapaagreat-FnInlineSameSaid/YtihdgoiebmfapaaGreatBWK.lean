import Derived.RangeFuncBox
import Derived.Shelf.Abstract
import Derived.OwnWalkIn
import Derived.TacticsInMore
import Derived.LoopNIn
import Derived.LoopIn
import Derived.Test.YtihdgoiebmfapaaGreatProg
import Derived.Test.YtihdgoiebmfapaaGreatAbsRI
set_option linter.all false
namespace Go.Proofs.YtihdgoiebmfapaaGreat
open Go Go.RowKit Go.Shelf Go.Abs
attribute [local go_sem] Oper.semAt_some
set_option maxRecDepth 100000 in
set_option maxHeartbeats 2000000 in
theorem dm (b len:Nat)(hlen:len<=1048576)(l:Nat)(J:Nat->World->Prop)(hJ :∀i W,J i W->iz b len W)
  (hY :∀(i:Nat) W1 v,i<len->J (i+1) W1->ie b len W1 i v->YieldAt Fence.wide 0 Tryz.prog l #[.int .i64 i,v] W1 λe W'=>e=.returned (.bool true)/\J i W') (W:World) (h0:J len W) :
  CallsIn Fence.wide 0 Tryz.prog 107 #[.func (.yield l) #[] #[],.pointer (some ⟨b,0,none⟩)] W λe W'=>(∃v,e=.returned v)/\J 0 W':=by
 refine callsIn_of_wp Tryz.func107 rfl oz ?_ rfl;show Code.wpIn _ _ _ _ _ { tmps:=#[.func (.yield l) #[] #[],.pointer (some ⟨b,0,none⟩),undef,undef,undef,undef,undef,undef,undef,undef,undef,undef,undef,undef,undef,undef,undef,undef,undef],defers:=[] } _;obtain⟨ad,cap,hs,hd⟩:=hJ len W h0
 gi_wp2
 gi_loopw [3] (λi wr=>∃k:Nat,k<=len/\i=.int .i64 ((k:Int)-1)/\J k wr)
  (λi _=>(intOf i+1).toNat)
 case atStart=>exact⟨len,pL _,by simp,h0⟩
 case round=>
  obtain⟨k,hk,rfl,hJk⟩:=hrel;obtain⟨ad',cap',hs',hd'⟩:=hJ k wr hJk;cases k with
  |zero=>
   gi_wp2
   go_end0
   exact⟨⟨_,rfl⟩,hJk⟩
  |succ k=>
   obtain⟨b',o',rfl,hc⟩:=hd' (by omega);obtain⟨c0,c1,c2,e0,e1,e2⟩:=hc k (by omega);have hy0:=hY k wr (.agg #[c0,c1,c2]) (by omega) hJk ⟨b',o',cap',c0,c1,c2,hs',e0,e1,e2,rfl⟩;obtain⟨fn,tmps,assign,body,hy,hR⟩:=hy0;have hk1:((k+1:Nat):Int)-1=(k:Int):=by omega
   rw[hk1]
   gi_wp2
   refine⟨rfl,hR.mono ?_⟩;rintro e W3 ⟨rfl,hJ3⟩
   gi_wp2
   go_roundw
   case rel=>exact⟨k,by omega,rfl,hJ3⟩
   case measure=>simp[intOf]
theorem Wi (b len:Nat)(hlen:len<=1048576):dh Tryz.prog 107 #[.pointer (some ⟨b,0,none⟩)] len (iz b len) (ie b len):=
 λl J W hJ hY h0=>dm b len hlen l J hJ hY W h0
end Go.Proofs.YtihdgoiebmfapaaGreat
