import Derived.Test.YtccficmcdkcpnaaGreatINS
import Derived.Test.YtccficmcdkcpnaaGreatGHADefsToBODefs
set_option linter.all false
namespace Go.Proofs.YtccficmcdkcpnaaGreat
open Go Go.Proofs Go.Abs RC
theorem Gj (b:Nat):∀(vs:List Value) (o:Nat) (w:World),GG w (w.setCells b o vs) (some b)
 | [],_,w=>GG.refl w _
 | v::r,o,w=>by
  have h:=Gj b r (o+1) (w.setCell ⟨b,o,none⟩ v);refine⟨h.sys,h.tape,h.output,om (by simp[World.setCell]) h.size,λi hi sB=>?_⟩;show ((w.setCell ⟨b,o,none⟩ v).setCells b (o+1) r).heap[i]?=_;rw[h.FU i (by simpa [World.setCell] using hi) sB];have:b≠i:=λe=>sB (by rw[e]);simp[World.setCell,Array.getElem?_modify,this]
theorem HL {b:Nat}{e:TypeId}{fr:Nat×Nat}:∀(vs:List Value) (o:Nat) (w:World) (cur:Array Value),w.heap[b]?=some (.cells cur e fr)->o+vs.length<=cur.size->
  ∃sh:Array Value,(w.setCells b o vs).heap[b]?=some (.cells sh e fr)/\sh.toList=cur.toList.take o++vs++cur.toList.drop (o+vs.length)
 | [],o,w,cur,h,_=>⟨cur,h,by simp⟩
 | v::r,o,w,cur,h,hl=>by
  simp only[nE]at hl;have h1:(w.setCell ⟨b,o,none⟩ v).heap[b]?=some (.cells (cur.setIfInBounds o v) e fr):=by
   simp[World.setCell,Array.getElem?_modify,h]
  obtain⟨sh,g1,g2⟩:=HL r (o+1) (w.setCell ⟨b,o,none⟩ v) _ h1 (by simp;omega);refine⟨sh,g1,?_⟩;rw[g2,Array.toList_setIfInBounds,List.set_eq_take_append_cons_drop,me (by simp;omega)];have hto:(cur.toList.take o).length=o:=by simp;omega
  rw[List.take_append,List.drop_append,hto,oN (by omega),show o+1-o=1 by omega,ph (l:=cur.toList.take o) (by omega),show o+1+r.length-o=r.length+1 by omega];simp only[List.take_succ_cons,oO,ny,List.drop_succ_cons,List.drop_drop,nE,np,List.singleton_append,py];rw[show o+1+r.length=o+(r.length+1) by omega]
theorem Yz {α:Type}{L C:List α}{x:α}{i n:Nat}(hC:L.take n=C)(hn:n+1<=L.length)(hi:i<n):
  ((L.take (i+1)++C.drop i++L.drop (i+1+(C.drop i).length)).take i++[x]++(L.take (i+1)++C.drop i++L.drop (i+1+(C.drop i).length)).drop (i+1)).take (n+1)=C.take i++x::C.drop i:=by
 have hl:C.length=n:=by rw[<- hC];simp;omega
 have h1:(L.take (i+1)++C.drop i++L.drop (i+1+(C.drop i).length)).take i=C.take i:=by
  rw[np,List.take_append_of_le_length (by simp;omega),List.take_take,<- hC,List.take_take,ou (by omega),ou (by omega)]
 have h2:(L.take (i+1)++C.drop i++L.drop (i+1+(C.drop i).length)).drop (i+1)=C.drop i++L.drop (i+1+(C.drop i).length):=by
  rw[np];exact List.drop_left' (by simp;omega)
 rw[h1,h2,<- np,pQ (by simp;omega),np];rfl
theorem bX {α:Type}{C R rest:List α}{x:α}{i n:Nat}(hl:C.length=n)(hi:i<n):((C.take i++[x]++R).take (i+1)++C.drop i++rest).take (n+1)=C.take i++x::C.drop i:=by
 rw[pQ (l₁:=C.take i++[x]) (by simp;omega),pQ (by simp;omega),np];rfl
theorem MI {F:Nat->Prop}{o ov:Own}{w w':World}{s0 s1 r:List Int}(hS:FT F [o,ov] [⟨0,3,1,s0.map eI⟩,⟨0,3,1,s1.map eI⟩] w)(ht:GG w w' o.E1){b' cap':Nat}{sh:Array Value}(sH:o.E1=some b'∨w.heap.size<=b')
  (hheap:w'.heap[b']?=some (.cells sh 3 (0,0))) (ru:sh.size=cap') (hle:r.length<=cap') (wT:cap'<=maxLen) (hl:sh.toList.take r.length=r.map (Value.int .i64)) :
  ∃v rr st' F' os',Ending.returned (.slice (some ⟨b',0,none⟩) r.length cap')=.returned v/\(rr=AV.own 0 1 r.length/\st'=[⟨1,3,1,r.map eI⟩,⟨0,3,1,s1.map eI⟩])/\FT F' os' st' w'/\AU F' w' os' rr v/\Ext F [o,ov] w F' os' w' 2:=by
 have rK:o.row=⟨0,3,1,s0.map eI⟩:=by have:=hS.st;simp at this;exact this.1
 have h0:=hS.rows 0 o rfl;have hr:Rel F [o,ov] ⟨0,λ_=>.FQ,[⟨0,3,1,s0.map eI⟩,⟨0,3,1,s1.map eI⟩]⟩ (⟨#[],[]⟩:Act) w:=⟨hS.st,λk=>trivial,rfl,hS.rows,hS.inj,hS.FU,rfl⟩
 have hT:=hr.Nl (k:=2) (id:=0) (o:=o) (o':=⟨⟨1,3,1,r.map eI⟩,some b',cap',o.more⟩) rfl ht (by rw[rK];exact mi _) (by rw[rK]) (λe=>by rw[rK]at e;simp at e)
  (λc hc=>by
   rcases hc with hc|hc
   ·simp only[mU]at hc;rcases sH with h|h
    ·exact .inl (.inl (by rw[h,hc]))
    ·exact .inr (by omega)
   ·exact .inl (.inr hc)) (λ_=>aZ (by
    rcases sH with h|h
    ·exact (h0.some b' h).1
    ·intro hF;have:=hS.FU _ hF;omega) hheap ru hle wT hl (λc hc=>by
    have hm:=h0.mo c hc;refine⟨hm.1,nk hm.2.1 ht.size,λe=>?_⟩;rcases sH with h|h
    ·exact hm.2.2 (by rw[h,e])
    ·omega))
 refine⟨_,_,_,F,_,rfl,⟨rfl,rfl⟩,⟨hT.1.st,hT.1.rows,hT.1.inj,hT.1.FU⟩,?_,hT.2.1⟩;simp only[AU];refine⟨_,rfl,ml _,⟨_,_,_,rfl⟩,λ_=>⟨by simp,.inr ⟨b',rfl,by simp⟩⟩⟩
theorem SL {s0 s1:List Int}{p1:Int}{r:List Int}(h:FL s0 s1 p1=some r):BJ Tryz.prog 93 [.own 0 0 (List.length s0),i64 p1,.own 1 0 (List.length s1)] [⟨0,3,1,List.map eI s0⟩,⟨0,3,1,List.map eI s1⟩] (λv st=>v=.own 0 1 (List.length r)/\st=[⟨1,3,1,List.map eI r⟩,⟨0,3,1,List.map eI s1⟩]):=by
 unfold FL at h;split at h
 case h_2=>cases h
 rename_i x;split at h
 case isFalse=>cases h
 rename_i hb;simp only[mU]at h;subst h;obtain⟨i,rfl⟩:=nm hb.1;obtain⟨_,tE,vt⟩:=hb;simp only[oJ];have tE:i<=s0.length:=by omega
 intro F os w vs hS hL;obtain⟨o,ov,rfl⟩ :∃o ov,os=[o,ov]:=by
  have h:=hS.st
  match os,h with
  | [o,ov],_=>exact⟨o,ov,rfl⟩
  | [],h=>simp at h
  | [_],h=>simp at h
  | _::_::_::_,h=>simp at h
 have rK:o.row=⟨0,3,1,s0.map eI⟩:=by have:=hS.st;simp at this;exact this.1
 have xz:ov.row=⟨0,3,1,[x].map eI⟩:=by have:=hS.st;simp at this;exact this.2
 have rR:=hS.rows 0 o rfl;have hov:=hS.rows 1 ov rfl;simp only[A7]at hL;obtain⟨u0,_,rfl,h0,u1,_,rfl,h1,u2,_,rfl,h2,rfl⟩:=hL;simp only[AU]at h0 h1 h2;subst h1;obtain⟨o1,ho1,_,_,h0⟩:=h0;simp only[mw,mU]at ho1;subst ho1;obtain⟨o2,vR,_,_,h2⟩:=h2;simp only[nV,mw,mU]at vR;subst vR;obtain⟨_,h0⟩:=h0 (by rw[rK]);obtain⟨_,h2⟩:=h2 (by rw[xz]);rw[rK]at h0;rw[xz]at h2;simp only[mf,oo,pY,pq,pw,mz,od]at h0 h2;obtain⟨bv,hbv,rfl⟩ :∃bv,ov.E1=some bv/\u2=.slice (some ⟨bv,0,none⟩) 1 ov.cap:=by
  rcases h2 with ⟨hb,_⟩|h
  ·have:=(hov.none hb).1;rw[xz]at this;simp at this
  ·exact h
 obtain⟨_,curv,hcurv,hsv,hlv,_,hcv⟩:=hov.some bv hbv;rw[xz]at hcurv hsv hlv hcv;have hvc:w.cell? ⟨bv,0,none⟩=some (.int .i64 x):=by
  obtain⟨u,e1,e2⟩:=hcv 0 (eI x) rfl 0 _ rfl;simp only[AU]at e2;rw[og w bv _ curv _ _ hcurv];rw[pY,ns]at e1;rw[e1,e2]
 have wB:∀(j:Nat) v,[Value.int .i64 x][j]?=some v->w.cell? ⟨bv,0+j,none⟩=some v:=λj v hj=>by
  cases j with
  | succ j=>simp at hj
  | zero=>
   obtain rfl:Value.int .i64 x=v:=by simpa using hj
   exact hvc
 have wQ:∀v∈[Value.int .i64 x],v.oneCell'=true:=λv hv=>by
  obtain rfl:v=Value.int .i64 x:=by simpa using hv
  rfl
 have vI:(s0.take i++x::s0.drop i).length=s0.length+1:=by simp;omega
 have uZ:(s0.take i++x::s0.drop i).map (Value.int .i64)=(s0.map (Value.int .i64)).take i++Value.int .i64 x::(s0.map (Value.int .i64)).drop i:=by simp
 have h1c:∀v∈s0.map (Value.int .i64),v.oneCell'=true:=λv hv=>by
  obtain⟨z,_,rfl⟩:=mu.1 hv;rfl
 rcases h0 with ⟨hb,a,rfl⟩|⟨b,hb,rfl⟩
 ·have hx:=(rR.none hb).1;rw[rK]at hx;have hs:s0=[]:=by simpa using hx
  subst hs;have hi:i=0:=by simpa using tE
  subst hi;refine (Qw a 0 0 bv 0 1 ov.cap [] [Value.int .i64 x] w (by omega) (by omega) (by omega) (by simpa using vt) rfl rfl (λ_=>rfl) (λ_ _ j v hj=>by simp at hj) wB wQ).mono λe w' ⟨he,hw⟩=>?_;subst hw;rw[he];have uK:=qS w (0+1) 0 3;have hgm:=pP w (0+1) 0 3 (by simp[maxLen]);generalize grownCap w (0+1) 0 3=G at uK hgm⊢;exact MI (r:=[x]) (cap':=G) hS (Hb _ _ _) (.inr (ml _)) (pG w.drew _) (by simp[pX,Value.cells];omega) (by simpa using uK) hgm (by simp)
 ·obtain⟨hF,cur,re,ru,hle,wT,rf⟩:=rR.some b hb;rw[rK]at re ru hle rf;simp only[qh,mf]at ru hle;have wF:=ZB rf;have tD:∀(j:Nat) v,(s0.map (Value.int .i64))[j]?=some v->w.cell? ⟨b,0+j,none⟩=some v:=λj v hj=>by
   rw[ns,og w b _ cur _ _ re];rw[<- wF,nJ]at hj;split at hj
   ·rwa [nz]at hj
   ·cases hj
  have hbb:bv≠b:=λe=>by
   have:=hS.inj 0 1 o ov b rfl rfl (.inl hb) (.inl (by rw[hbv,e]));omega
  have uL:cur.toList.length=o.cap:=by rw[nr,ru]
  by_cases sb:s0.length+1<=o.cap
  ·by_cases hi:i<s0.length
   ·refine (bM b 0 s0.length o.cap i bv 0 1 ov.cap (s0.map (Value.int .i64)) [Value.int .i64 x] w hi (by omega) sb (by simp only[maxLen]at wT;omega) hbb (by simp) rfl tD (λj hj=>by
      rw[ns,og w b _ cur _ _ re,na (by omega)];rfl) (λj hj=>by simp[World.frozen?,re]) wB h1c wQ 3 3 curv.size cur.size (by simp[World.shape?,hcurv]) (by simp[World.shape?,re]) (by omega) (by simp[World.frozen?,hcurv]) (by simp[World.frozen?,hcurv])).mono λe w' ⟨he,hw⟩=>?_
    rw[he];simp only[ns]at hw;subst hw;obtain⟨c1,e1,e2⟩:=HL (e:=3) (fr:=(0,0)) ((s0.map (Value.int .i64)).drop i) (i+1) w.drew cur re (by simp;omega);obtain⟨c2,e3,e4⟩:=HL (e:=3) (fr:=(0,0)) [Value.int .i64 x] i _ c1 e1 (by rw[<- nr,e2];simp;omega);have t1:=Gj b ((s0.map (Value.int .i64)).drop i) (i+1) w.drew;have t2:=Gj b [Value.int .i64 x] i (w.drew.setCells b (i+1) ((s0.map (Value.int .i64)).drop i));rw[<- vI];refine MI hS ⟨t2.sys.trans t1.sys,t2.tape.trans t1.tape,t2.output.trans t1.output,om t1.size t2.size,λq hq sB=>?_⟩ (.inl hb) e3 ?_ (by rw[vI];exact sb) wT ?_
    ·rw[hb]at sB;rw[t2.FU q (nk hq t1.size) sB,t1.FU q hq sB];rfl
    ·rw[<- nr,e4,e2];simp;omega
    ·rw[e4,e2,vI,uZ];exact Yz (by simpa using wF) (by omega) hi
   ·obtain rfl:i=s0.length:=by omega
    refine (WI b 0 s0.length o.cap bv 0 1 ov.cap [Value.int .i64 x] w (by omega) sb (by simp only[maxLen]at wT;omega) rfl (λj hj=>by
      rw[og w b _ cur _ _ re,na (by omega)];rfl) (λj hj=>by simp[World.frozen?,re]) wB wQ).mono λe w' ⟨he,hw⟩=>?_
    rw[he];simp only[ns]at hw;subst hw;obtain⟨c1,e1,e2⟩:=HL (e:=3) (fr:=(0,0)) [Value.int .i64 x] s0.length w cur re (by simp;omega);rw[<- vI];refine MI hS (by rw[hb];exact Gj b _ _ w) (.inl hb) e1 ?_ (by rw[vI];exact sb) wT ?_
    ·rw[<- nr,e2];simp;omega
    ·have:cur.toList.take s0.length=s0.map (Value.int .i64):=by simpa using wF
     rw[e2,vI,uZ,this,pQ (by simp),oN (by simp),ph (by simp)]
  ·have vw:b<w.heap.size:=(nN.1 re).1;have uK:=qS w (s0.length+1) o.cap 3;have hgm:=pP w (s0.length+1) o.cap 3 (by simp only[maxLen]at wT⊢;omega);by_cases hi:i<s0.length
   ·refine (eA b 0 s0.length o.cap i bv 0 1 ov.cap (s0.map (Value.int .i64)) [Value.int .i64 x] w hi (by omega) hle (by omega) vt (by simp) rfl tD wB h1c wQ).mono λe w' ⟨he,hw⟩=>?_;rw[he];subst hw;generalize grownCap w (s0.length+1) o.cap 3=G at uK hgm⊢;have hn:=pG w (.cells (((s0.map (Value.int .i64)).take i).toArray++Builtin.zeroCells (Value.int .i64 0).cells (s0.length+1-i)++Builtin.zeroCells (Value.int .i64 0).cells (G-(s0.length+1))) 3 (0,0));have hR:(((s0.map (Value.int .i64)).take i).toArray++Builtin.zeroCells (Value.int .i64 0).cells (s0.length+1-i)++Builtin.zeroCells (Value.int .i64 0).cells (G-(s0.length+1))).size=G:=by simp[pX,Value.cells];omega
    have hRl:(((s0.map (Value.int .i64)).take i).toArray++Builtin.zeroCells (Value.int .i64 0).cells (s0.length+1-i)++Builtin.zeroCells (Value.int .i64 0).cells (G-(s0.length+1))).toList.take i=(s0.map (Value.int .i64)).take i:=by
     simp only[Array.toList_append,np];exact pQ (by simp;omega)
    generalize (((s0.map (Value.int .i64)).take i).toArray++Builtin.zeroCells (Value.int .i64 0).cells (s0.length+1-i)++Builtin.zeroCells (Value.int .i64 0).cells (G-(s0.length+1)))=R at hn hR hRl⊢;obtain⟨c1,e1,e2⟩:=HL (e:=3) (fr:=(0,0)) [Value.int .i64 x] i (w.alloc (.cells R 3 (0,0))).drew R hn (by simp;omega);have t0:=GG.alloc w (.cells R 3 (0,0)) (some b);have t1:=Gj w.heap.size [Value.int .i64 x] i (w.alloc (.cells R 3 (0,0))).drew;have hc1:c1.size=G:=by rw[<- nr,e2];simp;omega
    obtain⟨c2,e3,e4⟩:=HL (e:=3) (fr:=(0,0)) ((s0.map (Value.int .i64)).drop i) (i+1) ((w.alloc (.cells R 3 (0,0))).drew.setCells w.heap.size i [Value.int .i64 x]).drew c1 e1 (by simp;omega);have t2:=Gj w.heap.size ((s0.map (Value.int .i64)).drop i) (i+1) ((w.alloc (.cells R 3 (0,0))).drew.setCells w.heap.size i [Value.int .i64 x]).drew;rw[<- vI];refine MI hS ⟨t2.sys.trans (t1.sys.trans t0.sys),t2.tape.trans (t1.tape.trans t0.tape),t2.output.trans (t1.output.trans t0.output),om t0.size (om t1.size t2.size),λq hq sB=>?_⟩ (.inr (ml _)) e3 ?_ (by rw[vI];exact uK) hgm ?_
    ·rw[hb]at sB;have uU:(some w.heap.size:Option Nat)≠some q:=λh=>by simp at h;omega
     rw[t2.FU q (nk hq (om t0.size t1.size)) uU];exact (t1.FU q (nk hq t0.size) uU).trans (t0.FU q hq sB)
    ·rw[<- nr,e4];have:=nr (xs:=c1);simp;omega
    ·rw[e4,e2,vI,uZ,hRl];exact bX (by simp) hi
   ·obtain rfl:i=s0.length:=by omega
    refine (Qw (some ⟨b,0,none⟩) s0.length o.cap bv 0 1 ov.cap (s0.map (Value.int .i64)) [Value.int .i64 x] w (by omega) hle (by omega) vt (by simp) rfl (λh=>by cases h) (λa ha j v hj=>by
     cases ha;rw[Addr.add_lit];exact tD j v hj) wB wQ).mono λe w' ⟨he,hw⟩=>?_
    rw[he];subst hw;generalize grownCap w (s0.length+1) o.cap 3=G at uK hgm⊢;rw[<- vI];refine MI hS (Hb _ _ _) (.inr (ml _)) (pG w.drew _) ?_ (by rw[vI];exact uK) hgm ?_
    ·simp[pX,Value.cells];omega
    ·rw[vI,uZ,Array.toList_append,pQ (by simp),oN (by simp),ph (by simp)]
end Go.Proofs.YtccficmcdkcpnaaGreat
