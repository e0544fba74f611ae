import Derived.Test.YtgiajkaabnbieaaGreatINS
import Derived.Test.YtgiajkaabnbieaaGreatGHADefsToCTDefs
set_option linter.all false
namespace Go.Proofs.YtgiajkaabnbieaaGreat
open Go Go.Proofs Go.Abs RC
theorem HO (b:Nat):∀(vs:List Value) (o:Nat) (w:World),G7 w (w.setCells b o vs) (some b)
 | [],_,w=>G7.refl w _
 | v::r,o,w=>by
  have h:=HO b r (o+1) (w.setCell ⟨b,o,none⟩ v);refine⟨h.sys,h.tape,h.output,od (by simp[World.setCell]) h.size,λi hi rV=>?_⟩;show ((w.setCell ⟨b,o,none⟩ v).setCells b (o+1) r).heap[i]?=_;rw[h.F6 i (by simpa [World.setCell] using hi) rV];have:b≠i:=λe=>rV (by rw[e]);simp[World.setCell,Array.getElem?_modify,this]
theorem H2 {b:Nat}{e:TypeId}{fr:Nat×Nat}:∀(vs:List Value) (o:Nat) (w:World) (cur:Array Value),w.heap[b]?=some (.cells cur e fr)->o+vs.length<=cur.size->
  ∃sB:Array Value,(w.setCells b o vs).heap[b]?=some (.cells sB e fr)/\sB.toList=cur.toList.take o++vs++cur.toList.drop (o+vs.length)
 | [],o,w,cur,h,_=>⟨cur,h,by simp⟩
 | v::r,o,w,cur,h,hl=>by
  simp only[mf]at hl;have h1:(w.setCell ⟨b,o,none⟩ v).heap[b]?=some (.cells (cur.setIfInBounds o v) e fr):=by
   simp[World.setCell,Array.getElem?_modify,h]
  obtain⟨sB,g1,g2⟩:=H2 r (o+1) (w.setCell ⟨b,o,none⟩ v) _ h1 (by simp;omega);refine⟨sB,g1,?_⟩;rw[g2,Array.toList_setIfInBounds,List.set_eq_take_append_cons_drop,mI (by simp;omega)];have hto:(cur.toList.take o).length=o:=by simp;omega
  rw[List.take_append,List.drop_append,hto,nv (by omega),show o+1-o=1 by omega,pI (l:=cur.toList.take o) (by omega),show o+1+r.length-o=r.length+1 by omega];simp only[List.take_succ_cons,oU,nV,List.drop_succ_cons,List.drop_drop,mf,nD,List.singleton_append,oZ];rw[show o+1+r.length=o+(r.length+1) by omega]
theorem Ze {α:Type}{L C:List α}{x:α}{i n:Nat}(hC:L.take n=C)(hn:n+1<=L.length)(hi:i<n):
  ((L.take (i+1)++C.drop i++L.drop (i+1+(C.drop i).length)).take i++[x]++(L.take (i+1)++C.drop i++L.drop (i+1+(C.drop i).length)).drop (i+1)).take (n+1)=C.take i++x::C.drop i:=by
 have hl:C.length=n:=by rw[<- hC];simp;omega
 have h1:(L.take (i+1)++C.drop i++L.drop (i+1+(C.drop i).length)).take i=C.take i:=by
  rw[nD,List.take_append_of_le_length (by simp;omega),List.take_take,<- hC,List.take_take,nz (by omega),nz (by omega)]
 have h2:(L.take (i+1)++C.drop i++L.drop (i+1+(C.drop i).length)).drop (i+1)=C.drop i++L.drop (i+1+(C.drop i).length):=by
  rw[nD];exact List.drop_left' (by simp;omega)
 rw[h1,h2,<- nD,og (by simp;omega),nD];rfl
theorem al {α:Type}{C R rest:List α}{x:α}{i n:Nat}(hl:C.length=n)(hi:i<n):((C.take i++[x]++R).take (i+1)++C.drop i++rest).take (n+1)=C.take i++x::C.drop i:=by
 rw[og (l₁:=C.take i++[x]) (by simp;omega),og (by simp;omega),nD];rfl
theorem Na {F:Nat->Prop}{o ov:Own}{w w':World}{s0 s1 r:List Int}(hS:GU F [o,ov] [⟨0,3,1,s0.map eI⟩,⟨0,3,1,s1.map eI⟩] w)(ht:G7 w w' o.DM){b' cap':Nat}{sB:Array Value}(rZ:o.DM=some b'∨w.heap.size<=b')
  (hheap:w'.heap[b']?=some (.cells sB 3 (0,0))) (rP:sB.size=cap') (hle:r.length<=cap') (vh:cap'<=maxLen) (hl:sB.toList.take r.length=r.map (Value.int .i64)) :
  ∃v rr st' F' os',Ending.returned (.slice (some ⟨b',0,none⟩) r.length cap')=.returned v/\(rr=AV.own 0 1 r.length/\st'=[⟨1,3,1,r.map eI⟩,⟨0,3,1,s1.map eI⟩])/\GU F' os' st' w'/\Ae F' w' os' rr v/\Ext F [o,ov] w F' os' w' 2:=by
 have qo:o.row=⟨0,3,1,s0.map eI⟩:=by have:=hS.st;simp at this;exact this.1
 have h0:=hS.rows 0 o rfl;have hr:Rel F [o,ov] ⟨0,λ_=>.FN,[⟨0,3,1,s0.map eI⟩,⟨0,3,1,s1.map eI⟩]⟩ (⟨#[],[]⟩:Act) w:=⟨hS.st,λk=>trivial,rfl,hS.rows,hS.inj,hS.F6,rfl⟩
 have hT:=hr.Ok (k:=2) (id:=0) (o:=o) (o':=⟨⟨1,3,1,r.map eI⟩,some b',cap',o.more⟩) rfl ht (by rw[qo];exact mV _) (by rw[qo]) (λe=>by rw[qo]at e;simp at e)
  (λc hc=>by
   rcases hc with hc|hc
   ·simp only[mE]at hc;rcases rZ with h|h
    ·exact .inl (.inl (by rw[h,hc]))
    ·exact .inr (by omega)
   ·exact .inl (.inr hc)) (λ_=>bp (by
    rcases rZ with h|h
    ·exact (h0.some b' h).1
    ·intro hF;have:=hS.F6 _ hF;omega) hheap rP hle vh hl (λc hc=>by
    have hm:=h0.mo c hc;refine⟨hm.1,nL hm.2.1 ht.size,λe=>?_⟩;rcases rZ with h|h
    ·exact hm.2.2 (by rw[h,e])
    ·omega))
 refine⟨_,_,_,F,_,rfl,⟨rfl,rfl⟩,⟨hT.1.st,hT.1.rows,hT.1.inj,hT.1.F6⟩,?_,hT.2.1⟩;simp only[Ae];refine⟨_,rfl,mS _,⟨_,_,_,rfl⟩,λ_=>⟨by simp,.inr ⟨b',rfl,by simp⟩⟩⟩
theorem So {s0 s1:List Int}{p1:Int}{r:List Int}(h:Fm s0 s1 p1=some r):AS Tryz.prog 50 [.own 0 0 (List.length s0),i64 p1,.own 1 0 (List.length s1)] [⟨0,3,1,List.map eI s0⟩,⟨0,3,1,List.map eI s1⟩] (λv st=>v=.own 0 1 (List.length r)/\st=[⟨1,3,1,List.map eI r⟩,⟨0,3,1,List.map eI s1⟩]):=by
 unfold Fm at h;split at h
 case h_2=>cases h
 rename_i x;split at h
 case isFalse=>cases h
 rename_i hb;simp only[mE]at h;subst h;obtain⟨i,rfl⟩:=nU hb.1;obtain⟨_,su,ve⟩:=hb;simp only[nj];have su:i<=s0.length:=by omega
 intro F os w vs hS hL;obtain⟨o,ov,rfl⟩ :∃o ov,os=[o,ov]:=by
  have h:=hS.st
  match os,h with
  | [o,ov],_=>exact⟨o,ov,rfl⟩
  | [],h=>simp at h
  | [_],h=>simp at h
  | _::_::_::_,h=>simp at h
 have qo:o.row=⟨0,3,1,s0.map eI⟩:=by have:=hS.st;simp at this;exact this.1
 have yJ:ov.row=⟨0,3,1,[x].map eI⟩:=by have:=hS.st;simp at this;exact this.2
 have qu:=hS.rows 0 o rfl;have hov:=hS.rows 1 ov rfl;simp only[Ba]at hL;obtain⟨u0,_,rfl,h0,u1,_,rfl,h1,u2,_,rfl,h2,rfl⟩:=hL;simp only[Ae]at h0 h1 h2;subst h1;obtain⟨o1,xg,_,_,h0⟩:=h0;simp only[me,mE]at xg;subst xg;obtain⟨o2,vG,_,_,h2⟩:=h2;simp only[mz,me,mE]at vG;subst vG;obtain⟨_,h0⟩:=h0 (by rw[qo]);obtain⟨_,h2⟩:=h2 (by rw[yJ]);rw[qo]at h0;rw[yJ]at h2;simp only[mO,oP,pB,pM,nw,mg,oI]at h0 h2;obtain⟨bv,hbv,rfl⟩ :∃bv,ov.DM=some bv/\u2=.slice (some ⟨bv,0,none⟩) 1 ov.cap:=by
  rcases h2 with ⟨hb,_⟩|h
  ·have:=(hov.none hb).1;rw[yJ]at this;simp at this
  ·exact h
 obtain⟨_,curv,hcurv,hsv,hlv,_,hcv⟩:=hov.some bv hbv;rw[yJ]at hcurv hsv hlv hcv;have hvc:w.cell? ⟨bv,0,none⟩=some (.int .i64 x):=by
  obtain⟨u,e1,e2⟩:=hcv 0 (eI x) rfl 0 _ rfl;simp only[Ae]at e2;rw[oE w bv _ curv _ _ hcurv];rw[pB,nS]at e1;rw[e1,e2]
 have vp:∀(j:Nat) v,[Value.int .i64 x][j]?=some v->w.cell? ⟨bv,0+j,none⟩=some v:=λj v hj=>by
  cases j with
  | succ j=>simp at hj
  | zero=>
   obtain rfl:Value.int .i64 x=v:=by simpa using hj
   exact hvc
 have wE:∀v∈[Value.int .i64 x],v.oneCell'=true:=λv hv=>by
  obtain rfl:v=Value.int .i64 x:=by simpa using hv
  rfl
 have uS:(s0.take i++x::s0.drop i).length=s0.length+1:=by simp;omega
 have yK:(s0.take i++x::s0.drop i).map (Value.int .i64)=(s0.map (Value.int .i64)).take i++Value.int .i64 x::(s0.map (Value.int .i64)).drop i:=by simp
 have h1c:∀v∈s0.map (Value.int .i64),v.oneCell'=true:=λv hv=>by
  obtain⟨z,_,rfl⟩:=mU.1 hv;rfl
 rcases h0 with ⟨hb,a,rfl⟩|⟨b,hb,rfl⟩
 ·have hx:=(qu.none hb).1;rw[qo]at hx;have hs:s0=[]:=by simpa using hx
  subst hs;have hi:i=0:=by simpa using su
  subst hi;refine (RT a 0 0 bv 0 1 ov.cap [] [Value.int .i64 x] w (by omega) (by omega) (by omega) (by simpa using ve) rfl rfl (λ_=>rfl) (λ_ _ j v hj=>by simp at hj) vp wE).mono λe w' ⟨he,hw⟩=>?_;subst hw;rw[he];have tV:=ph w (0+1) 0 3;have hgm:=oe w (0+1) 0 3 (by simp[maxLen]);generalize grownCap w (0+1) 0 3=G at tV hgm⊢;exact Na (r:=[x]) (cap':=G) hS (Ij _ _ _) (.inr (mS _)) (oW w.drew _) (by simp[pA,Value.cells];omega) (by simpa using tV) hgm (by simp)
 ·obtain⟨hF,cur,rE,rP,hle,vh,rF⟩:=qu.some b hb;rw[qo]at rE rP hle rF;simp only[qF,mO]at rP hle;have vt:=Z6 rF;have sQ:∀(j:Nat) v,(s0.map (Value.int .i64))[j]?=some v->w.cell? ⟨b,0+j,none⟩=some v:=λj v hj=>by
   rw[nS,oE w b _ cur _ _ rE];rw[<- vt,mi]at hj;split at hj
   ·rwa [na]at hj
   ·cases hj
  have hbb:bv≠b:=λe=>by
   have:=hS.inj 0 1 o ov b rfl rfl (.inl hb) (.inl (by rw[hbv,e]));omega
  have uI:cur.toList.length=o.cap:=by rw[nX,rP]
  by_cases sA:s0.length+1<=o.cap
  ·by_cases hi:i<s0.length
   ·refine (bU b 0 s0.length o.cap i bv 0 1 ov.cap (s0.map (Value.int .i64)) [Value.int .i64 x] w hi (by omega) sA (by simp only[maxLen]at vh;omega) hbb (by simp) rfl sQ (λj hj=>by
      rw[nS,oE w b _ cur _ _ rE,nM (by omega)];rfl) (λj hj=>by simp[World.frozen?,rE]) vp h1c wE 3 3 curv.size cur.size (by simp[World.shape?,hcurv]) (by simp[World.shape?,rE]) (by omega) (by simp[World.frozen?,hcurv]) (by simp[World.frozen?,hcurv])).mono λe w' ⟨he,hw⟩=>?_
    rw[he];simp only[nS]at hw;subst hw;obtain⟨c1,e1,e2⟩:=H2 (e:=3) (fr:=(0,0)) ((s0.map (Value.int .i64)).drop i) (i+1) w.drew cur rE (by simp;omega);obtain⟨c2,e3,e4⟩:=H2 (e:=3) (fr:=(0,0)) [Value.int .i64 x] i _ c1 e1 (by rw[<- nX,e2];simp;omega);have t1:=HO b ((s0.map (Value.int .i64)).drop i) (i+1) w.drew;have t2:=HO b [Value.int .i64 x] i (w.drew.setCells b (i+1) ((s0.map (Value.int .i64)).drop i));rw[<- uS];refine Na hS ⟨t2.sys.trans t1.sys,t2.tape.trans t1.tape,t2.output.trans t1.output,od t1.size t2.size,λq hq rV=>?_⟩ (.inl hb) e3 ?_ (by rw[uS];exact sA) vh ?_
    ·rw[hb]at rV;rw[t2.F6 q (nL hq t1.size) rV,t1.F6 q hq rV];rfl
    ·rw[<- nX,e4,e2];simp;omega
    ·rw[e4,e2,uS,yK];exact Ze (by simpa using vt) (by omega) hi
   ·obtain rfl:i=s0.length:=by omega
    refine (W3 b 0 s0.length o.cap bv 0 1 ov.cap [Value.int .i64 x] w (by omega) sA (by simp only[maxLen]at vh;omega) rfl (λj hj=>by
      rw[oE w b _ cur _ _ rE,nM (by omega)];rfl) (λj hj=>by simp[World.frozen?,rE]) vp wE).mono λe w' ⟨he,hw⟩=>?_
    rw[he];simp only[nS]at hw;subst hw;obtain⟨c1,e1,e2⟩:=H2 (e:=3) (fr:=(0,0)) [Value.int .i64 x] s0.length w cur rE (by simp;omega);rw[<- uS];refine Na hS (by rw[hb];exact HO b _ _ w) (.inl hb) e1 ?_ (by rw[uS];exact sA) vh ?_
    ·rw[<- nX,e2];simp;omega
    ·have:cur.toList.take s0.length=s0.map (Value.int .i64):=by simpa using vt
     rw[e2,uS,yK,this,og (by simp),nv (by simp),pI (by simp)]
  ·have vj:b<w.heap.size:=(mq.1 rE).1;have tV:=ph w (s0.length+1) o.cap 3;have hgm:=oe w (s0.length+1) o.cap 3 (by simp only[maxLen]at vh⊢;omega);by_cases hi:i<s0.length
   ·refine (dU b 0 s0.length o.cap i bv 0 1 ov.cap (s0.map (Value.int .i64)) [Value.int .i64 x] w hi (by omega) hle (by omega) ve (by simp) rfl sQ vp h1c wE).mono λe w' ⟨he,hw⟩=>?_;rw[he];subst hw;generalize grownCap w (s0.length+1) o.cap 3=G at tV hgm⊢;have hn:=oW w (.cells (((s0.map (Value.int .i64)).take i).toArray++Builtin.zeroCells (Value.int .i64 0).cells (s0.length+1-i)++Builtin.zeroCells (Value.int .i64 0).cells (G-(s0.length+1))) 3 (0,0));have hR:(((s0.map (Value.int .i64)).take i).toArray++Builtin.zeroCells (Value.int .i64 0).cells (s0.length+1-i)++Builtin.zeroCells (Value.int .i64 0).cells (G-(s0.length+1))).size=G:=by simp[pA,Value.cells];omega
    have hRl:(((s0.map (Value.int .i64)).take i).toArray++Builtin.zeroCells (Value.int .i64 0).cells (s0.length+1-i)++Builtin.zeroCells (Value.int .i64 0).cells (G-(s0.length+1))).toList.take i=(s0.map (Value.int .i64)).take i:=by
     simp only[Array.toList_append,nD];exact og (by simp;omega)
    generalize (((s0.map (Value.int .i64)).take i).toArray++Builtin.zeroCells (Value.int .i64 0).cells (s0.length+1-i)++Builtin.zeroCells (Value.int .i64 0).cells (G-(s0.length+1)))=R at hn hR hRl⊢;obtain⟨c1,e1,e2⟩:=H2 (e:=3) (fr:=(0,0)) [Value.int .i64 x] i (w.alloc (.cells R 3 (0,0))).drew R hn (by simp;omega);have t0:=G7.alloc w (.cells R 3 (0,0)) (some b);have t1:=HO w.heap.size [Value.int .i64 x] i (w.alloc (.cells R 3 (0,0))).drew;have hc1:c1.size=G:=by rw[<- nX,e2];simp;omega
    obtain⟨c2,e3,e4⟩:=H2 (e:=3) (fr:=(0,0)) ((s0.map (Value.int .i64)).drop i) (i+1) ((w.alloc (.cells R 3 (0,0))).drew.setCells w.heap.size i [Value.int .i64 x]).drew c1 e1 (by simp;omega);have t2:=HO w.heap.size ((s0.map (Value.int .i64)).drop i) (i+1) ((w.alloc (.cells R 3 (0,0))).drew.setCells w.heap.size i [Value.int .i64 x]).drew;rw[<- uS];refine Na hS ⟨t2.sys.trans (t1.sys.trans t0.sys),t2.tape.trans (t1.tape.trans t0.tape),t2.output.trans (t1.output.trans t0.output),od t0.size (od t1.size t2.size),λq hq rV=>?_⟩ (.inr (mS _)) e3 ?_ (by rw[uS];exact tV) hgm ?_
    ·rw[hb]at rV;have uu:(some w.heap.size:Option Nat)≠some q:=λh=>by simp at h;omega
     rw[t2.F6 q (nL hq (od t0.size t1.size)) uu];exact (t1.F6 q (nL hq t0.size) uu).trans (t0.F6 q hq rV)
    ·rw[<- nX,e4];have:=nX (xs:=c1);simp;omega
    ·rw[e4,e2,uS,yK,hRl];exact al (by simp) hi
   ·obtain rfl:i=s0.length:=by omega
    refine (RT (some ⟨b,0,none⟩) s0.length o.cap bv 0 1 ov.cap (s0.map (Value.int .i64)) [Value.int .i64 x] w (by omega) hle (by omega) ve (by simp) rfl (λh=>by cases h) (λa ha j v hj=>by
     cases ha;rw[Addr.add_lit];exact sQ j v hj) vp wE).mono λe w' ⟨he,hw⟩=>?_
    rw[he];subst hw;generalize grownCap w (s0.length+1) o.cap 3=G at tV hgm⊢;rw[<- uS];refine Na hS (Ij _ _ _) (.inr (mS _)) (oW w.drew _) ?_ (by rw[uS];exact tV) hgm ?_
    ·simp[pA,Value.cells];omega
    ·rw[uS,yK,Array.toList_append,og (by simp),nv (by simp),pI (by simp)]
end Go.Proofs.YtgiajkaabnbieaaGreat
