import Derived.Test.YtccficmcdkcpnaaGreatINS
import Derived.Test.YtccficmcdkcpnaaGreatGHADefsToCNDefs
set_option linter.all false
namespace Go.Proofs.YtccficmcdkcpnaaGreat
open Go Go.Proofs Go.Abs RC
theorem Iv (b:Nat):∀(vs:List Value) (o:Nat) (w:World),Gt w (w.setCells b o vs) (some b)
 | [],_,w=>Gt.refl w _
 | v::r,o,w=>by
  have h:=Iv b r (o+1) (w.setCell ⟨b,o,none⟩ v);refine⟨h.sys,h.tape,h.output,wx (by simp[World.setCell]) h.size,λi hi hne=>?_⟩;show ((w.setCell ⟨b,o,none⟩ v).setCells b (o+1) r).heap[i]?=_;rw[h.GK i (by simpa [World.setCell] using hi) hne];have:b≠i:=λe=>hne (by rw[e]);simp[World.setCell,xn,this]
theorem Jo {b:Nat}{e:TypeId}{fr:Nat×Nat}:∀(vs:List Value) (o:Nat) (w:World) (cur:Array Value),w.heap[b]?=some (.cells cur e fr)->o+vs.length<=cur.size->
  ∃cur':Array Value,(w.setCells b o vs).heap[b]?=some (.cells cur' e fr)/\cur'.toList=cur.toList.take o++vs++cur.toList.drop (o+vs.length)
 | [],o,w,cur,h,_=>⟨cur,h,by simp⟩
 | v::r,o,w,cur,h,hl=>by
  simp only[vD]at hl;have h1:(w.setCell ⟨b,o,none⟩ v).heap[b]?=some (.cells (cur.setIfInBounds o v) e fr):=by
   simp[World.setCell,xn,h]
  obtain⟨cur',g1,g2⟩:=Jo r (o+1) (w.setCell ⟨b,o,none⟩ v) _ h1 (by simp;omega);refine⟨cur',g1,?_⟩;rw[g2,Array.toList_setIfInBounds,List.set_eq_take_append_cons_drop,uX (by simp;omega)];have hto:(cur.toList.take o).length=o:=by simp;omega
  rw[List.take_append,List.drop_append,hto,wO (by omega),show o+1-o=1 by omega,xh (l:=cur.toList.take o) (by omega),show o+1+r.length-o=r.length+1 by omega];simp only[List.take_succ_cons,yO,vh,yI,List.drop_drop,vD,vP,xx,xz];rw[show o+1+r.length=o+(r.length+1) by omega]
theorem eh {α:Type}{L C:List α}{x:α}{i n:Nat}(hC:L.take n=C)(hn:n+1<=L.length)(hi:i<n):
  ((L.take (i+1)++C.drop i++L.drop (i+1+(C.drop i).length)).take i++[x]++(L.take (i+1)++C.drop i++L.drop (i+1+(C.drop i).length)).drop (i+1)).take (n+1)=C.take i++x::C.drop i:=by
 have hl:C.length=n:=by rw[<- hC];simp;omega
 have h1:(L.take (i+1)++C.drop i++L.drop (i+1+(C.drop i).length)).take i=C.take i:=by
  rw[vP,List.take_append_of_le_length (by simp;omega),List.take_take,<- hC,List.take_take,wV (by omega),wV (by omega)]
 have h2:(L.take (i+1)++C.drop i++L.drop (i+1+(C.drop i).length)).drop (i+1)=C.drop i++L.drop (i+1+(C.drop i).length):=by
  rw[vP];exact List.drop_left' (by simp;omega)
 rw[h1,h2,<- vP,xR (by simp;omega),vP];rfl
theorem ji {α:Type}{C R rest:List α}{x:α}{i n:Nat}(hl:C.length=n)(hi:i<n):((C.take i++[x]++R).take (i+1)++C.drop i++rest).take (n+1)=C.take i++x::C.drop i:=by
 rw[xR (l₁:=C.take i++[x]) (by simp;omega),xR (by simp;omega),vP];rfl
theorem Pr {F:Nat->Prop}{o ov:Own}{w w':World}{s0 s1 r:List Int}(hS:FN F [o,ov] [⟨0,3,1,s0.map eI⟩,⟨0,3,1,s1.map eI⟩] w)(ht:Gt w w' o.Ea){b' cap':Nat}{cur':Array Value}(hb':o.Ea=some b'∨w.heap.size<=b')
  (hheap:w'.heap[b']?=some (.cells cur' 3 (0,0))) (hsz:cur'.size=cap') (hle:r.length<=cap') (hmx:cap'<=maxLen) (hl:cur'.toList.take r.length=r.map (Value.int .i64)) :
  ∃v rr st' F' os',Ending.returned (.slice (some ⟨b',0,none⟩) r.length cap')=.returned v/\(rr=AV.own 0 1 r.length/\st'=[⟨1,3,1,r.map eI⟩,⟨0,3,1,s1.map eI⟩])/\FN F' os' st' w'/\Ae F' w' os' rr v/\Ext F [o,ov] w F' os' w' 2:=by
 have zh:o.row=⟨0,3,1,s0.map eI⟩:=by have:=hS.st;simp at this;exact this.1
 have h0:=hS.rows 0 o rfl;have hr:Rel F [o,ov] ⟨0,λ_=>.F6,[⟨0,3,1,s0.map eI⟩,⟨0,3,1,s1.map eI⟩]⟩ (⟨#[],[]⟩:Act) w:=⟨hS.st,λk=>trivial,rfl,hS.rows,hS.inj,hS.GK,rfl⟩
 have hT:=hr.RK (k:=2) (id:=0) (o:=o) (o':=⟨⟨1,3,1,r.map eI⟩,some b',cap',o.more⟩) rfl ht (by rw[zh];exact ue _) (by rw[zh]) (λe=>by rw[zh]at e;simp at e)
  (λc hc=>by
   rcases hc with hc|hc
   ·simp only[uO]at hc;rcases hb' with h|h
    ·exact .inl (.inl (by rw[h,hc]))
    ·exact .inr (by omega)
   ·exact .inl (.inr hc)) (λ_=>jZ (by
    rcases hb' with h|h
    ·exact (h0.some b' h).1
    ·intro hF;have:=hS.GK _ hF;omega) hheap hsz hle hmx hl (λc hc=>by
    have hm:=h0.mo c hc;refine⟨hm.1,vi hm.2.1 ht.size,λe=>?_⟩;rcases hb' with h|h
    ·exact hm.2.2 (by rw[h,e])
    ·omega))
 refine⟨_,_,_,F,_,rfl,⟨rfl,rfl⟩,⟨hT.1.st,hT.1.rows,hT.1.inj,hT.1.GK⟩,?_,hT.2.1⟩;simp only[Ae];refine⟨_,rfl,uq _,⟨_,_,_,rfl⟩,λ_=>⟨by simp,.inr ⟨b',rfl,by simp⟩⟩⟩
theorem WC {s0 s1:List Int}{p1:Int}{r:List Int}(h:FV s0 s1 p1=some r):BW Tryz.prog 93 [.own 0 0 (List.length s0),i64 p1,.own 1 0 (List.length s1)] [⟨0,3,1,List.map eI s0⟩,⟨0,3,1,List.map eI s1⟩] (λv st=>v=.own 0 1 (List.length r)/\st=[⟨1,3,1,List.map eI r⟩,⟨0,3,1,List.map eI s1⟩]):=by
 unfold FV at h;split at h
 case h_2=>cases h
 rename_i x;split at h
 case isFalse=>cases h
 rename_i hb;simp only[uO]at h;subst h;obtain⟨i,rfl⟩:=vu hb.1;obtain⟨_,hin,hbig⟩:=hb;simp only[wH];have hin:i<=s0.length:=by omega
 intro F os w vs hS hL;obtain⟨o,ov,rfl⟩ :∃o ov,os=[o,ov]:=by
  have h:=hS.st
  match os,h with
  | [o,ov],_=>exact⟨o,ov,rfl⟩
  | [],h=>simp at h
  | [_],h=>simp at h
  | _::_::_::_,h=>simp at h
 have zh:o.row=⟨0,3,1,s0.map eI⟩:=by have:=hS.st;simp at this;exact this.1
 have hrov:ov.row=⟨0,3,1,[x].map eI⟩:=by have:=hS.st;simp at this;exact this.2
 have zp:=hS.rows 0 o rfl;have hov:=hS.rows 1 ov rfl;simp only[Bc]at hL;obtain⟨u0,_,rfl,h0,u1,_,rfl,h1,u2,_,rfl,h2,rfl⟩:=hL;simp only[Ae]at h0 h1 h2;subst h1;obtain⟨o1,ho1,_,_,h0⟩:=h0;simp only[vC,uO]at ho1;subst ho1;obtain⟨o2,ho2,_,_,h2⟩:=h2;simp only[vW,vC,uO]at ho2;subst ho2;obtain⟨_,h0⟩:=h0 (by rw[zh]);obtain⟨_,h2⟩:=h2 (by rw[hrov]);rw[zh]at h0;rw[hrov]at h2;simp only[uZ,wX,xI,xO,wS,vK,wW]at h0 h2;obtain⟨bv,hbv,rfl⟩ :∃bv,ov.Ea=some bv/\u2=.slice (some ⟨bv,0,none⟩) 1 ov.cap:=by
  rcases h2 with ⟨hb,_⟩|h
  ·have:=(hov.none hb).1;rw[hrov]at this;simp at this
  ·exact h
 obtain⟨_,curv,hcurv,hsv,hlv,_,hcv⟩:=hov.some bv hbv;rw[hrov]at hcurv hsv hlv hcv;have hvc:w.cell? ⟨bv,0,none⟩=some (.int .i64 x):=by
  obtain⟨u,e1,e2⟩:=hcv 0 (eI x) rfl 0 _ rfl;simp only[Ae]at e2;rw[wm w bv _ curv _ _ hcurv];rw[xI,vd]at e1;rw[e1,e2]
 have hvs:∀(j:Nat) v,[Value.int .i64 x][j]?=some v->w.cell? ⟨bv,0+j,none⟩=some v:=λj v hj=>by
  cases j with
  | succ j=>simp at hj
  | zero=>
   obtain rfl:Value.int .i64 x=v:=by simpa using hj
   exact hvc
 have h1v:∀v∈[Value.int .i64 x],v.oneCell'=true:=λv hv=>by
  obtain rfl:v=Value.int .i64 x:=by simpa using hv
  rfl
 have hrl:(s0.take i++x::s0.drop i).length=s0.length+1:=by simp;omega
 have hrm:(s0.take i++x::s0.drop i).map (Value.int .i64)=(s0.map (Value.int .i64)).take i++Value.int .i64 x::(s0.map (Value.int .i64)).drop i:=by simp
 have h1c:∀v∈s0.map (Value.int .i64),v.oneCell'=true:=λv hv=>by
  obtain⟨z,_,rfl⟩:=uw.1 hv;rfl
 rcases h0 with ⟨hb,a,rfl⟩|⟨b,hb,rfl⟩
 ·have hx:=(zp.none hb).1;rw[zh]at hx;have hs:s0=[]:=by simpa using hx
  subst hs;have hi:i=0:=by simpa using hin
  subst hi;refine (Uh a 0 0 bv 0 1 ov.cap [] [Value.int .i64 x] w (by omega) (by omega) (by omega) (by simpa using hbig) rfl rfl (λ_=>rfl) (λ_ _ j v hj=>by simp at hj) hvs h1v).mono λe w' ⟨he,hw⟩=>?_;subst hw;rw[he];have hge:=yV w (0+1) 0 3;have hgm:=xP w (0+1) 0 3 (by simp[maxLen]);generalize grownCap w (0+1) 0 3=G at hge hgm⊢;exact Pr (r:=[x]) (cap':=G) hS (J8 _ _ _) (.inr (uq _)) (xE w.drew _) (by simp[xX,Value.cells];omega) (by simpa using hge) hgm (by simp)
 ·obtain⟨hF,cur,AAF,hsz,hle,hmx,AAE⟩:=zp.some b hb;rw[zh]at AAF hsz hle AAE;simp only[yr,uZ]at hsz hle;have htk:=Sy AAE;have hcs:∀(j:Nat) v,(s0.map (Value.int .i64))[j]?=some v->w.cell? ⟨b,0+j,none⟩=some v:=λj v hj=>by
   rw[vd,wm w b _ cur _ _ AAF];rw[<- htk,vN]at hj;split at hj
   ·rwa [wA]at hj
   ·cases hj
  have hbb:bv≠b:=λe=>by
   have:=hS.inj 0 1 o ov b rfl rfl (.inl hb) (.inl (by rw[hbv,e]));omega
  have hcl:cur.toList.length=o.cap:=by rw[vy,hsz]
  by_cases hroom:s0.length+1<=o.cap
  ·by_cases hi:i<s0.length
   ·refine (jU b 0 s0.length o.cap i bv 0 1 ov.cap (s0.map (Value.int .i64)) [Value.int .i64 x] w hi (by omega) hroom (by simp only[maxLen]at hmx;omega) hbb (by simp) rfl hcs (λj hj=>by
      rw[vd,wm w b _ cur _ _ AAF,vk (by omega)];rfl) (λj hj=>by simp[World.frozen?,AAF]) hvs h1c h1v 3 3 curv.size cur.size (by simp[World.shape?,hcurv]) (by simp[World.shape?,AAF]) (by omega) (by simp[World.frozen?,hcurv]) (by simp[World.frozen?,hcurv])).mono λe w' ⟨he,hw⟩=>?_
    rw[he];simp only[vd]at hw;subst hw;obtain⟨c1,e1,e2⟩:=Jo (e:=3) (fr:=(0,0)) ((s0.map (Value.int .i64)).drop i) (i+1) w.drew cur AAF (by simp;omega);obtain⟨c2,e3,e4⟩:=Jo (e:=3) (fr:=(0,0)) [Value.int .i64 x] i _ c1 e1 (by rw[<- vy,e2];simp;omega);have t1:=Iv b ((s0.map (Value.int .i64)).drop i) (i+1) w.drew;have t2:=Iv b [Value.int .i64 x] i (w.drew.setCells b (i+1) ((s0.map (Value.int .i64)).drop i));rw[<- hrl];refine Pr hS ⟨t2.sys.trans t1.sys,t2.tape.trans t1.tape,t2.output.trans t1.output,wx t1.size t2.size,λq hq hne=>?_⟩ (.inl hb) e3 ?_ (by rw[hrl];exact hroom) hmx ?_
    ·rw[hb]at hne;rw[t2.GK q (vi hq t1.size) hne,t1.GK q hq hne];rfl
    ·rw[<- vy,e4,e2];simp;omega
    ·rw[e4,e2,hrl,hrm];exact eh (by simpa using htk) (by omega) hi
   ·obtain rfl:i=s0.length:=by omega
    refine (bf b 0 s0.length o.cap bv 0 1 ov.cap [Value.int .i64 x] w (by omega) hroom (by simp only[maxLen]at hmx;omega) rfl (λj hj=>by
      rw[wm w b _ cur _ _ AAF,vk (by omega)];rfl) (λj hj=>by simp[World.frozen?,AAF]) hvs h1v).mono λe w' ⟨he,hw⟩=>?_
    rw[he];simp only[vd]at hw;subst hw;obtain⟨c1,e1,e2⟩:=Jo (e:=3) (fr:=(0,0)) [Value.int .i64 x] s0.length w cur AAF (by simp;omega);rw[<- hrl];refine Pr hS (by rw[hb];exact Iv b _ _ w) (.inl hb) e1 ?_ (by rw[hrl];exact hroom) hmx ?_
    ·rw[<- vy,e2];simp;omega
    ·have:cur.toList.take s0.length=s0.map (Value.int .i64):=by simpa using htk
     rw[e2,hrl,hrm,this,xR (by simp),wO (by simp),xh (by simp)]
  ·have hbw:b<w.heap.size:=(vR.1 AAF).1;have hge:=yV w (s0.length+1) o.cap 3;have hgm:=xP w (s0.length+1) o.cap 3 (by simp only[maxLen]at hmx⊢;omega);by_cases hi:i<s0.length
   ·refine (mB b 0 s0.length o.cap i bv 0 1 ov.cap (s0.map (Value.int .i64)) [Value.int .i64 x] w hi (by omega) hle (by omega) hbig (by simp) rfl hcs hvs h1c h1v).mono λe w' ⟨he,hw⟩=>?_;rw[he];subst hw;generalize grownCap w (s0.length+1) o.cap 3=G at hge hgm⊢;have hn:=xE w (.cells (((s0.map (Value.int .i64)).take i).toArray++Builtin.zeroCells (Value.int .i64 0).cells (s0.length+1-i)++Builtin.zeroCells (Value.int .i64 0).cells (G-(s0.length+1))) 3 (0,0));have hR:(((s0.map (Value.int .i64)).take i).toArray++Builtin.zeroCells (Value.int .i64 0).cells (s0.length+1-i)++Builtin.zeroCells (Value.int .i64 0).cells (G-(s0.length+1))).size=G:=by simp[xX,Value.cells];omega
    have hRl:(((s0.map (Value.int .i64)).take i).toArray++Builtin.zeroCells (Value.int .i64 0).cells (s0.length+1-i)++Builtin.zeroCells (Value.int .i64 0).cells (G-(s0.length+1))).toList.take i=(s0.map (Value.int .i64)).take i:=by
     simp only[Array.toList_append,vP];exact xR (by simp;omega)
    generalize (((s0.map (Value.int .i64)).take i).toArray++Builtin.zeroCells (Value.int .i64 0).cells (s0.length+1-i)++Builtin.zeroCells (Value.int .i64 0).cells (G-(s0.length+1)))=R at hn hR hRl⊢;obtain⟨c1,e1,e2⟩:=Jo (e:=3) (fr:=(0,0)) [Value.int .i64 x] i (w.alloc (.cells R 3 (0,0))).drew R hn (by simp;omega);have t0:=Gt.alloc w (.cells R 3 (0,0)) (some b);have t1:=Iv w.heap.size [Value.int .i64 x] i (w.alloc (.cells R 3 (0,0))).drew;have hc1:c1.size=G:=by rw[<- vy,e2];simp;omega
    obtain⟨c2,e3,e4⟩:=Jo (e:=3) (fr:=(0,0)) ((s0.map (Value.int .i64)).drop i) (i+1) ((w.alloc (.cells R 3 (0,0))).drew.setCells w.heap.size i [Value.int .i64 x]).drew c1 e1 (by simp;omega);have t2:=Iv w.heap.size ((s0.map (Value.int .i64)).drop i) (i+1) ((w.alloc (.cells R 3 (0,0))).drew.setCells w.heap.size i [Value.int .i64 x]).drew;rw[<- hrl];refine Pr hS ⟨t2.sys.trans (t1.sys.trans t0.sys),t2.tape.trans (t1.tape.trans t0.tape),t2.output.trans (t1.output.trans t0.output),wx t0.size (wx t1.size t2.size),λq hq hne=>?_⟩ (.inr (uq _)) e3 ?_ (by rw[hrl];exact hge) hgm ?_
    ·rw[hb]at hne;have hq':(some w.heap.size:Option Nat)≠some q:=λh=>by simp at h;omega
     rw[t2.GK q (vi hq (wx t0.size t1.size)) hq'];exact (t1.GK q (vi hq t0.size) hq').trans (t0.GK q hq hne)
    ·rw[<- vy,e4];have:=vy (xs:=c1);simp;omega
    ·rw[e4,e2,hrl,hrm,hRl];exact ji (by simp) hi
   ·obtain rfl:i=s0.length:=by omega
    refine (Uh (some ⟨b,0,none⟩) s0.length o.cap bv 0 1 ov.cap (s0.map (Value.int .i64)) [Value.int .i64 x] w (by omega) hle (by omega) hbig (by simp) rfl (λh=>by cases h) (λa ha j v hj=>by
     cases ha;rw[Addr.add_lit];exact hcs j v hj) hvs h1v).mono λe w' ⟨he,hw⟩=>?_
    rw[he];subst hw;generalize grownCap w (s0.length+1) o.cap 3=G at hge hgm⊢;rw[<- hrl];refine Pr hS (J8 _ _ _) (.inr (uq _)) (xE w.drew _) ?_ (by rw[hrl];exact hge) hgm ?_
    ·simp[xX,Value.cells];omega
    ·rw[hrl,hrm,Array.toList_append,xR (by simp),wO (by simp),xh (by simp)]
end Go.Proofs.YtccficmcdkcpnaaGreat
