import Derived.Test.YtpahalfiiahddaaGPlainAToYGE
import Derived.Test.YtpahalfiiahddaaGHADefsToFIDefs
import Derived.Test.YtpahalfiiahddaaGAbsXToSSDefs

namespace RC
open Go
theorem Yc (n:Int):I6 (Sh.w n):=by
 unfold Sh.w I6
 rw[IntKind.wrap_i64];omega
def cn (l:List Int):Gl:=⟨l⟩
def gD:List Ac:=[⟨0,0,[⟨[]⟩,⟨[0,1]⟩]⟩,⟨0,0,[]⟩,⟨0,0,[⟨[]⟩,⟨[3,0,3]⟩]⟩]
def gL:List Ac:=[⟨0,0,[⟨[1,3]⟩]⟩,⟨1,0,[]⟩,⟨0,0,[⟨[1,1,0]⟩,⟨[0]⟩,⟨[3]⟩]⟩,⟨0,1,[]⟩]
def GD (D:List Ac):Prop:=D=gD∨∃d∈gL,D=gD ++ [d]
theorem LR {b:List Int} (Bb:Bk b) {p:Int} (h0:0≤p) (h1:p≤500000):Aj (FR b p) fun q=>GD q.1∧q.2=p+1:=by
 unfold FR
 refine AY rfl (AY rfl (AY rfl (AY rfl (AY rfl (AY rfl (AY rfl (AY rfl ?_)))))))
 refine Aj.bind (Bu Bb ⟨by omega,by omega⟩) fun q hq=>?_
 have q1:=hq.pos;have q2:=hq.nn;have q3:=hq.lt (by omega)
 refine Aj.bind (R:=GD) ?_ fun l hl=>Aj.some ⟨hl,q1⟩
 refine A0 (fun _=>?_) fun _=>Aj.some (.inl rfl)
 refine Aj.get q2 (by simp;omega) fun c _ hc=>?_
 refine Aj.app (by simp) (by simp) (Aj.some (.inr ⟨c,?_,rfl⟩))
 exact hc
structure Y9 (F:List Ar):Prop where
 fl:F.length≤4
 Vs:1≤F.length
 par :∀f∈F,f.params.length≤3
 cl :∀f∈F,(∀x∈f.params,x=0∨x=1∨x=3)∨(f.params=[2,1]∧f.result=1)
theorem CX.of {D:List Ac} {F:List Ar} (hD:GD D) (S:Y9 F):CX D F:=by
 have all :∀{D:List Ac},D.length≤4→nc D≤7→(∀d∈D,d.cons.length≤3)→(∀d∈D,∀c∈d.cons,c.fields.length≤3∧∀x∈c.fields,x=0∨x=1∨x=3)→C7 D 1=[0,1]→C7 D 3=[2,3]→
   Fl D 0 0=some (1,⟨[]⟩)→Fl D 0 1=some (1,⟨[0,1]⟩)→Fl D 0 2=some (3,⟨[]⟩)→Fl D 0 3=some (3,⟨[3,0,3]⟩)→GN 1 1 D 0=-1→CX D F:=fun a b c d e f g h i j k=>
  ⟨a,b,c,d,e,f,⟨_,g⟩,⟨_,h⟩,⟨_,i⟩,⟨_,j⟩,k,S.fl,S.Vs,S.par,S.cl⟩
 rcases hD with rfl | ⟨d,hd,rfl⟩
 ·exact all (by decide) (by decide) (by decide) (by decide) (by decide) (by decide) rfl rfl rfl rfl (by decide)
 ·simp only[gL,List.mem_cons,List.not_mem_nil,or_false] at hd
  rcases hd with rfl | rfl | rfl | rfl
  all_goals exact all (by decide) (by decide) (by decide) (by decide) (by decide) (by decide) rfl rfl rfl rfl (by decide)
structure Yp (f:Ar):Prop where
 Cu:QM f
 par:f.params.length≤4
 size:en f.body≤1001
theorem QD {l:List Int} (hl:l.length≤4) (h :∀x∈l,-1000000≤x∧x≤1000000):Hy I6 l:=⟨fun x hx=>Cd (h x hx).1 (h x hx).2,by omega⟩
structure TR (F:List Ar):Prop where
 sg:Y9 F
 ok :∀f∈F,Yp f
 sz :∀f∈F,en f.body≤1000
theorem Ik {α:Type} {l:List α} {i:Int} {x y:α} (h:y∈Sh.put l i x):y∈l∨y=x:=List.mem_or_eq_of_mem_set h
theorem TR.put {F:List Ar} (P:TR F) {i:Int} {g:Ar} (hg:g∈F) {e:AP} (he:A2 e) (hs:en e≤1000):TR (Sh.put F i ⟨g.params,g.result,e⟩):=by
 have hl:(Sh.put F i ⟨g.params,g.result,e⟩).length=F.length:=by unfold Sh.put;simp
 have G:=P.ok g hg
 refine⟨⟨by rw[hl];exact P.sg.fl,by rw[hl];exact P.sg.Vs,fun f hf=>?_,fun f hf=>?_⟩,fun f hf=>?_,fun f hf=>?_⟩
 ·rcases Ik hf with h | rfl
  ·exact P.sg.par f h
  ·exact P.sg.par g hg
 ·rcases Ik hf with h | rfl
  ·exact P.sg.cl f h
  ·exact P.sg.cl g hg
 ·rcases Ik hf with h | rfl
  ·exact P.ok f h
  ·exact⟨⟨G.Cu.params,G.Cu.result,he⟩,G.par,by show en e≤_;omega⟩
 ·rcases Ik hf with h | rfl
  ·exact P.sz f h
  ·exact hs
theorem O1 {b:List Int} (Bb:Bk b) {M:Nat} (hM:2000000≤M) {p:Int} (h0:0≤p) (h1:p≤1000):Aj (Ff M b p) fun q=>GD q.1.decls∧TR q.1.funcs∧0≤q.2∧q.2≤100000:=by
 unfold Ff
 refine Aj.bind (LR Bb h0 (by omega)) fun q3 ⟨hD,hq3⟩=>?_
 iterate 17 refine AY rfl ?_
 have sigs :∀(l:List Ar),(∀f∈l,f.body=⟨0,0,[]⟩∧f.params.length≤3∧(∀x∈f.params,0≤x∧x≤3)∧(0≤f.result∧f.result≤3)∧((∀x∈f.params,x=0∨x=1∨x=3)∨(f.params=[2,1]∧f.result=1)))→l.length≤4→1≤l.length→TR l:=fun l h h4 h5=>
  ⟨⟨h4,h5,fun f hf=>(h f hf).2.1,fun f hf=>(h f hf).2.2.2.2⟩,fun f hf=>by
   obtain⟨b1,b2,b3,b4,_⟩:=h f hf
   exact⟨⟨QD (by omega) fun x hx=>by have:=b3 x hx;omega,Cd (by omega) (by omega),by rw[b1];exact EY ⟨by omega,by omega⟩ ⟨by omega,by omega⟩⟩,by omega,by rw[b1,IP];omega⟩,fun f hf=>by rw[(h f hf).1,IP];omega⟩
 have pg :∀{l:List Ar} {f:Int×Int→Ar→Option (Af×Int)} {s:Int} {Q:Af×Int→Prop},1≤l.length→0≤s→s≤900000→(∀(q:Int×Int) c,q.2=s+1→c∈l→Aj (f q c) Q)→Aj (Option.bind (Aw b s (Sh.len l)) fun q25=>Option.bind (Sh.get l q25.1) fun c26=>f q25 c26) Q:=fun hl hs0 hs1 k=>by
  rw[AT]
  refine Aj.bind (Bu Bb ⟨hs0,by omega⟩) fun q hq=>?_
  exact Aj.get hq.nn (hq.lt (by omega)) fun c _ hc=>k q c hq.pos hc
 refine pg (by simp) (by omega) (by omega) fun q25 c26 hq25 hc26=>?_
 refine pg (by simp) (by omega) (by omega) fun q27 c28 hq27 hc28=>?_
 refine pg (by simp) (by omega) (by omega) fun q29 c30 hq29 hc30=>?_
 refine Aj.bind (Ew Bb ⟨by omega,by omega⟩ (by simp) (by simp)) fun q32 hq32=>?_
 have o1:=hq32.pos
 have o2:=hq32.mem
 simp only[List.mem_cons,List.not_mem_nil,or_false] at o2
 obtain⟨n,hn⟩:=Int.eq_ofNat_of_zero_le (by omega:0≤q32.1)
 rw[hn]
 refine AY (Vq (by simp;omega)) ?_
 generalize hl:([(Ar.mk [] 0 (AP.mk 0 0 [])),c26,c28,c30].take n)=l34
 have hlen:l34.length=n:=by rw[← hl];simp;omega
 have hall :∀f∈l34,f.body=⟨0,0,[]⟩∧f.params.length≤3∧(∀x∈f.params,0≤x∧x≤3)∧(0≤f.result∧f.result≤3)∧((∀x∈f.params,x=0∨x=1∨x=3)∨(f.params=[2,1]∧f.result=1)):=by
  intro f hf
  rw[← hl] at hf
  have:=List.mem_of_mem_take hf
  simp only[List.mem_cons,List.not_mem_nil,or_false] at this hc26 hc28 hc30
  rcases this with rfl | rfl | rfl | rfl
  ·simp
  ·rcases hc26 with rfl | rfl | rfl | rfl | rfl | rfl <;> simp
  ·rcases hc28 with rfl | rfl | rfl | rfl | rfl | rfl <;> simp
  ·rcases hc30 with rfl | rfl | rfl | rfl <;> simp
 have P0:=sigs l34 hall (by omega) (by omega)
 have key :∀(k N:Nat) (z p':Int) (l:List Ar),z=(k:Int) - 1→k < N→k≤4→k≤l.length→TR l→0≤p'→p' + 7000 * k≤50000→Aj (Cy M b q3 N z p' l) fun r=>TR r.2∧0≤r.1∧r.1≤60000:=by
  intro k
  induction k with
  | zero=>
   intro N z p' l hz hN _ _ hP g0 g1
   obtain⟨N,rfl⟩ :∃m,N=m+1:=⟨N - 1,by omega⟩
   rw[Cy,if_neg (by rw[decide_eq_true_eq];omega)]
   exact Aj.some ⟨hP,g0,by show p'≤_;omega⟩
  | succ k ih=>
   intro N z p' l hz hN h4 hkl hP g0 g1
   obtain⟨N,rfl⟩ :∃m,N=m+1:=⟨N - 1,by omega⟩
   have hzk:z=(k:Int):=by omega
   subst hzk
   rw[Cy,if_pos (by rw[decide_eq_true_eq];omega)]
   have C:=CX.of hD hP.sg
   refine Aj.bind (Tj C Bb hM (f:=k) (by omega) (p:=p') g0 (by omega)) fun r hr=>?_
   have r1:=hr.lo;have r2:=hr.hi
   obtain⟨g,hg,hgm⟩:=Bj (l:=l) (i:=k) (by omega)
   refine AY (BB hg) ?_
   refine ih N (Sh.w ((k:Int) - 1)) r.2 _ (BI (by omega) (by omega)) (by omega) (by omega) (by unfold Sh.put;simp;omega) (hP.put hgm hr.Cu hr.size) (by omega) (by omega)
 have k:=key n M (Sh.w ((n:Int) - 1)) q32.2 l34 (BI (by omega) (by omega)) (by omega) (by omega) (by omega) P0 (by omega) (by omega)
 refine Aj.bind k ?_
 rintro⟨f40,l41⟩ ⟨a1,a2,a3⟩
 exact Aj.some ⟨hD,a1,a2,by show f40≤_;dsimp only at a3;omega⟩
theorem OH {M:Nat} (hM:2000000≤M) :∀(n:Nat) (l:List AP),B4 l < n→B4 l≤100000→Dv M n l=some l:=by
 intro n
 induction n with
 | zero=>intro l h;omega
 | succ n ih=>
  intro l hn hs
  rw[Dv]
  unfold Gi
  have hl:=JT l
  have key :∀{N i:Nat},i≤l.length→l.length - i < N→CR l (Dv M n) N i (l.take i)=some l:=by
   intro N i hi hN
   refine BX l.length (fun N i=>CR l (Dv M n) N i (l.take i)=some l) ?_ ?_ hi hN
   ·intro m;rw[CR,if_neg (by simp[AT]),List.take_length]
   ·intro m i hi ih2
    obtain⟨e,he,hem⟩:=Bj hi
    have h1:=Ls hem
    have h2:=IL e
    rw[CR,if_pos (by rw[decide_eq_true_eq,AT];omega),BB he]
    unfold Hz
    simp only[Option.bind_some]
    rw[ih e.kids (by omega) (by omega)]
    simp only[Option.bind_some]
    rw[Ep _ _ 40 (by simp;omega) (by simp;omega),BI (by omega) (by omega),show ((i:Int) + 1)=((i+1:Nat):Int) by omega]
    simp only[Option.bind_some]
    have:(⟨e.op,e.num,e.kids⟩:AP)=e:=by cases e;rfl
    rw[this,← G2 he]
    exact ih2
  have:=key (Nat.zero_le _) (by omega:l.length - 0 < M)
  rw[List.take_zero,show ((0:Nat):Int)=0 from rfl] at this
  rw[this];rfl
theorem TS :∀(l:List AP) (i:Nat) (e x:AP),l[i]?=some e→B4 (l.set i x) + en e=B4 l+en x
 | [],i,e,x,h=>by simp at h
 | a :: l,0,e,x,h=>by
  simp only[List.getElem?_cons_zero,Option.some.injEq] at h
  subst h
  simp only[List.set_cons_zero,B4];omega
 | a :: l,i+1,e,x,h=>by
  have:=TS l i e x (by simpa using h)
  simp only[List.set_cons_succ,B4];omega
theorem W7 {b:List Int} (Bb:Bk b) {M:Nat} (hM:2000000≤M) :∀(n:Nat) (e:AP) (p:Int),en e < n→en e≤1001→A2 e→0≤p→p+5 * en e≤300000→Aj (HC M n b p e) fun q=>en q.1≤en e+1∧A2 q.1∧p≤q.2∧q.2≤p+5 * en e:=by
 intro n
 induction n with
 | zero=>intro e p h;have:=MR e;omega
 | succ n ih=>
  intro e p hn hs hin h0 h1
  have hee:=IL e
  have hkl:=JT e.kids
  rw[HC]
  unfold I9
  refine Aj.bind (R:=fun q:Bool×Int=>(q.1=true→0 < e.kids.length)∧p≤q.2∧q.2≤p+1) ?_ ?_
  ·refine A0 (fun h=>?_) fun _=>Aj.some ⟨(fun h=>by cases h),by show p≤p;omega,by show p≤_;omega⟩
   rw[AT] at h
   exact Aj.bind (Bu Bb ⟨by omega,by omega⟩) fun q hq=>Aj.some ⟨fun _=>by omega,by have:=hq.pos;show p≤q.2;omega,by have:=hq.pos;show q.2≤_;omega⟩
  ·rintro⟨t4,f5⟩ ⟨g1,g2,g3⟩
   dsimp only at g1 g2 g3 ⊢
   refine B2 (fun h=>?_) fun _=>?_
   ·have hk:=g1 h
    refine AY (OH hM M e.kids (by omega) (by omega)) ?_
    rw[AT]
    refine Aj.bind (Bu Bb ⟨by omega,by omega⟩) fun q hq=>?_
    have q1:=hq.pos;have q2:=hq.nn;have q3:=hq.lt (by omega)
    refine Aj.get q2 q3 fun c hc hcm=>?_
    have hcl:=Ls hcm
    refine Aj.bind (ih c q.2 (by omega) (by omega) (hin.kids c hcm) (by omega) (by omega)) fun r ⟨r1,r2,r3,r4⟩=>?_
    have hset:=TS e.kids q.1.toNat c r.1 hc
    refine AY rfl (Aj.some ⟨?_,?_,by show p≤r.2;omega,by show r.2≤_;omega⟩)
    ·show en ⟨e.op,e.num,Sh.put e.kids q.1 r.1⟩≤_
     unfold Sh.put
     rw[E4];omega
    ·show A2 ⟨e.op,e.num,Sh.put e.kids q.1 r.1⟩
     refine HK hin.op hin.num (fun x hx=>?_) (by unfold Sh.put;simp;omega)
     rcases Ik hx with h3 | rfl
     ·exact hin.kids x h3
     ·exact r2
   ·refine Aj.bind (Bu Bb ⟨by omega,by omega⟩) fun q19 hq19=>?_
    have a1:=hq19.pos;have a2:=hq19.nn;have a3:=hq19.lt (by omega)
    have hp:=MR e
    have same :∀{o m:Int},I6 o→I6 m→A2 ⟨o,m,e.kids⟩:=fun ho hm=>HK ho hm hin.kids (by omega)
    refine A0 (fun _=>?_) fun _=>?_
    ·refine Aj.bind (Bu Bb ⟨by omega,by omega⟩) fun q hq=>?_
     have c1:=hq.pos;have c2:=hq.nn;have c3:=hq.lt (by omega)
     refine AY rfl (Aj.some ⟨?_,same (Cd (by omega) (by omega)) hin.num,by show p≤q.2;omega,by show q.2≤_;omega⟩)
     show en ⟨q.1,e.num,e.kids⟩≤_
     rw[E4];omega
    refine A0 (fun _=>?_) fun _=>?_
    ·refine Aj.bind (Ew Bb ⟨by omega,by omega⟩ (by simp) (by simp)) fun q hq=>?_
     have c1:=hq.pos
     refine AY rfl (Aj.some ⟨?_,same hin.op (Yc _),by show p≤q.2;omega,by show q.2≤_;omega⟩)
     show en ⟨e.op,Sh.w (e.num+q.1),e.kids⟩≤_
     rw[E4];omega
    refine A0 (fun _=>?_) fun _=>?_
    ·refine AY (OH hM M e.kids (by omega) (by omega)) (AY rfl ?_)
     refine Aj.app (by simp;omega) (by simp;omega) (AY rfl (Aj.some ⟨?_,?_,by show p≤q19.2;omega,by show q19.2≤_;omega⟩))
     ·show en ⟨e.op,e.num,e.kids ++ [⟨0,1,[]⟩]⟩≤_
      rw[E4,HS,FX,IP];omega
     ·show A2 ⟨e.op,e.num,e.kids ++ [⟨0,1,[]⟩]⟩
      refine .mk hin.op hin.num (by show (e.kids ++ _).length≤_;simp;omega) fun x hx=>?_
      rcases List.mem_append.1 (show x∈e.kids ++ [⟨0,1,[]⟩] from hx) with h3 | h3
      ·exact hin.kids x h3
      ·rw[List.mem_singleton] at h3;rw[h3];exact EY ⟨by omega,by omega⟩ ⟨by omega,by omega⟩
    refine A0 (fun _=>?_) fun _=>?_
    ·refine Aj.bind (Ew Bb ⟨by omega,by omega⟩ (by simp) (by simp)) fun q hq=>?_
     have c1:=hq.pos;have c2:=hq.mem
     simp only[List.mem_cons,List.not_mem_nil,or_false] at c2
     refine AY rfl (Aj.some ⟨?_,EY ⟨by omega,by omega⟩ ⟨by omega,by omega⟩,by show p≤q.2;omega,by show q.2≤_;omega⟩)
     show en ⟨12,q.1,[]⟩≤_
     rw[IP];omega
    ·refine Aj.bind (Ew Bb ⟨by omega,by omega⟩ (by simp) (by simp)) fun q hq=>?_
     have c1:=hq.pos;have c2:=hq.mem
     simp only[List.mem_cons,List.not_mem_nil,or_false] at c2
     refine AY rfl (Aj.some ⟨?_,EY ⟨by omega,by omega⟩ ⟨by omega,by omega⟩,by show p≤q.2;omega,by show q.2≤_;omega⟩)
     show en ⟨0,q.1,[]⟩≤_
     rw[IP];omega
structure RM (D:List Ac):Prop where
 len:D.length≤6
 Cu :∀d∈D,JO d
 size :∀d∈D,dz d≤20
theorem W9 {f t:Int} {cs:List Gl} (hf:-1000000≤f∧f≤1000000) (ht:-1000000≤t∧t≤1000000) (hl:cs.length≤4) (h :∀c∈cs,c.fields.length≤4∧∀x∈c.fields,-1000000≤x∧x≤1000000):JO ⟨f,t,cs⟩:=
 ⟨Cd hf.1 hf.2,Cd ht.1 ht.2,fun c hc=>⟨QD (h c hc).1 (h c hc).2⟩,by show cs.length≤_;omega⟩
theorem Yj {f t:Int} {cs:List Gl} (hl:cs.length≤4) (h :∀c∈cs,c.fields.length≤4):dz ⟨f,t,cs⟩≤20:=by
 have :∀l:List Gl,(∀c∈l,c.fields.length≤4)→(l.map cz).sum≤4 * l.length:=fun l=>by
  induction l with
  | nil=>simp
  | cons c l ih=>
   intro h
   have h1:=h c (by simp)
   have h2:=ih fun c hc=>h c (by simp[hc])
   simp only[List.map_cons,List.sum_cons,List.length_cons]
   have:cz c=c.fields.length:=rfl
   omega
 have h2:=this cs h
 show cs.length+(cs.map cz).sum≤20
 omega
theorem Qy {f t:Int} {cs:List Gl} (hf:-1000000≤f∧f≤1000000) (ht:-1000000≤t∧t≤1000000) (hl:cs.length≤4) (h :∀c∈cs,c.fields.length≤4∧∀x∈c.fields,-1000000≤x∧x≤1000000):JO ⟨f,t,cs⟩∧dz ⟨f,t,cs⟩≤20:=
 ⟨W9 hf ht hl h,Yj hl fun c hc=>(h c hc).1⟩
theorem PR {D:List Ac} (h:GD D):RM D∧3≤D.length∧D.length≤4:=by
 have hall :∀d∈gD ++ gL,JO d∧dz d≤20:=by
  intro d hd
  simp only[gD,gL,List.cons_append,List.nil_append,List.mem_cons,List.not_mem_nil,or_false] at hd
  rcases hd with rfl | rfl | rfl | rfl | rfl | rfl | rfl <;> exact Qy (by decide) (by decide) (by decide) (by decide)
 rcases h with rfl | ⟨d,hd,rfl⟩
 ·exact⟨⟨by decide,fun d hd=>(hall d (List.mem_append_left _ hd)).1,fun d hd=>(hall d (List.mem_append_left _ hd)).2⟩,by decide,by decide⟩
 ·have hm :∀x∈gD ++ [d],x∈gD ++ gL:=fun x hx=>by
   rcases List.mem_append.1 hx with h | h
   ·exact List.mem_append_left _ h
   ·rw[List.mem_singleton] at h;rw[h];exact List.mem_append_right _ hd
  exact⟨⟨by simp[gD],fun x hx=>(hall x (hm x hx)).1,fun x hx=>(hall x (hm x hx)).2⟩,by simp[gD],by simp[gD]⟩
theorem RM.put {D:List Ac} (h:RM D) {i:Int} {d:Ac} (hd:JO d∧dz d≤20):RM (Sh.put D i d):=
 ⟨by unfold Sh.put;simp;exact h.len,fun x hx=>(Ik hx).elim (fun h3=>h.Cu x h3) (fun e=>by rw[e];exact hd.1),fun x hx=>(Ik hx).elim (fun h3=>h.size x h3) (fun e=>by rw[e];exact hd.2)⟩
theorem RM.app {D E:List Ac} (h:RM D) (hl:D.length+E.length≤6) (hE :∀d∈E,JO d∧dz d≤20):RM (D ++ E):=
 ⟨by simp;omega,fun x hx=>(List.mem_append.1 hx).elim (fun h3=>h.Cu x h3) (fun h3=>(hE x h3).1),fun x hx=>(List.mem_append.1 hx).elim (fun h3=>h.size x h3) (fun h3=>(hE x h3).2)⟩
theorem aB {α:Type} {l:List α} {i:Nat} (h:i≤l.length):Sh.sl l (i:Int) (Sh.len l)=some (l.drop i):=by
 unfold Sh.sl
 rw[AT,if_pos (by omega)]
 simp
theorem RH {b:List Int} (Bb:Bk b) {p:Int} (h0:0≤p) (h1:p≤300000):Aj (G6 b p) fun q=>RM q.1∧p≤q.2∧q.2≤p+10:=by
 unfold G6
 refine Aj.bind (LR Bb h0 (by omega)) fun q3 ⟨hD,hq3⟩=>?_
 obtain⟨O,l3,l4⟩:=PR hD
 rw[AT]
 refine Aj.bind (Bu Bb ⟨by omega,by omega⟩) fun q5 hq5=>?_
 have a1:=hq5.pos;have a2:=hq5.nn;have a3:=hq5.lt (by omega)
 refine Aj.bind (R:=fun r:Int×List Ac=>RM r.2∧p≤r.1∧r.1≤p+10) ?_ fun r hr=>Aj.some ⟨hr.1,hr.2⟩
 refine Aj.bind (Bu Bb ⟨by omega,by omega⟩) fun q12 hq12=>?_
 have b1:=hq12.pos
 refine A0 (fun _=>?_) fun _=>?_
 ·refine Aj.bind (Ew Bb ⟨by omega,by omega⟩ (by simp) (by simp)) fun x hx=>?_
  have x1:=hx.pos;have x2:=hx.mem
  refine Aj.bind (Ew Bb ⟨by omega,by omega⟩ (by simp) (by simp)) fun y hy=>?_
  have y1:=hy.pos;have y2:=hy.mem
  simp only[List.mem_cons,List.not_mem_nil,or_false] at x2 y2
  exact Aj.get a2 a3 fun c _ _=>Aj.some ⟨O.put (Qy (by omega) (by omega) (by decide) (by simp)),by show p≤y.2;omega,by show y.2≤_;omega⟩
 refine A0 (fun _=>?_) fun _=>?_
 ·refine Aj.bind (Ew Bb ⟨by omega,by omega⟩ (by simp) (by simp)) fun x hx=>?_
  have x1:=hx.pos;have x2:=hx.mem
  simp only[List.mem_cons,List.not_mem_nil,or_false] at x2
  refine AY rfl (AY rfl (AY rfl ?_))
  refine Aj.get a2 a3 fun c _ _=>Aj.some ⟨O.put (Qy (by omega) (by omega) (by simp) ?_),by show p≤x.2;omega,by show x.2≤_;omega⟩
  intro c hc
  simp only[List.mem_cons,List.not_mem_nil,or_false] at hc
  rcases hc with rfl | rfl | rfl
  ·exact⟨by simp,fun z hz=>by rw[List.mem_singleton] at hz;omega⟩
  ·exact⟨by simp,by simp⟩
  ·exact⟨by simp,by simp⟩
 refine A0 (fun _=>?_) fun _=>?_
 ·refine AY rfl ?_
  rw[BI (n:=q5.1+1) (by omega) (by omega)]
  refine Aj.get a2 a3 fun c _ _=>Aj.some ⟨O.put (Qy (by omega) (by omega) (by simp) ?_),by show p≤q12.2;omega,by show q12.2≤_;omega⟩
  intro c hc
  rw[List.mem_singleton] at hc
  rw[hc]
  exact⟨by simp,fun z hz=>by rw[List.mem_singleton] at hz;omega⟩
 refine A0 (fun _=>?_) fun _=>?_
 ·refine Aj.bind (Ew Bb ⟨by omega,by omega⟩ (by simp) (by simp)) fun x hx=>?_
  have x1:=hx.pos;have x2:=hx.mem
  simp only[List.mem_cons,List.not_mem_nil,or_false] at x2
  refine Aj.app (by simp;omega) (by simp;omega) (Aj.some ⟨O.app (by simp;omega) fun d hd=>?_,by show p≤x.2;omega,by show x.2≤_;omega⟩)
  rw[List.mem_singleton] at hd
  rw[hd];exact Qy (by omega) (by omega) (by simp) (by simp)
 refine A0 (fun _=>?_) fun _=>?_
 ·refine Aj.bind (Bu Bb ⟨by omega,by omega⟩) fun x hx=>?_
  have x1:=hx.pos;have x2:=hx.nn;have x3:=hx.lt (by omega)
  refine AY rfl (AY rfl (AY rfl (AY rfl ?_)))
  refine Aj.bind (Bu Bb ⟨by omega,by omega⟩) fun y hy=>?_
  have y1:=hy.pos;have y2:=hy.nn;have y3:=hy.lt (by omega)
  obtain⟨k,hk⟩:=Int.eq_ofNat_of_zero_le y2
  rw[hk]
  refine AY (aB (by simp;omega)) ?_
  refine Aj.get a2 a3 fun c _ _=>Aj.some ⟨O.put (Qy (by omega) (by omega) (by simp) ?_),by show p≤y.2;omega,by show y.2≤_;omega⟩
  intro c hc
  have:=List.mem_of_mem_drop hc
  simp only[List.mem_cons,List.not_mem_nil,or_false] at this
  rcases this with rfl | rfl | rfl | rfl <;> exact⟨by simp,by simp⟩
 refine A0 (fun _=>?_) fun _=>?_
 ·refine Aj.app (by simp;omega) (by simp;omega) (Aj.some ⟨O.app (by simp;omega) fun d hd=>?_,by show p≤q12.2;omega,by show q12.2≤_;omega⟩)
  simp only[List.mem_cons,List.not_mem_nil,or_false] at hd
  rcases hd with rfl | rfl <;> exact Qy (by omega) (by omega) (by simp) (by simp)
 ·exact Aj.some ⟨O,by show p≤q12.2;omega,by show q12.2≤_;omega⟩
structure PD (p:Af):Prop where
 decls:RM p.decls
 Kw:p.funcs.length≤5
 Y2 :∀f∈p.funcs,Yp f
theorem La {α:Type} {f:α→Nat} {a:Nat} :∀(l:List α),(∀x∈l,f x≤a)→(l.map f).sum≤a * l.length
 | [],_=>by simp
 | x :: l,h=>by
  have h1:=h x (by simp)
  have h2:=La l fun y hy=>h y (by simp[hy])
  simp only[List.map_cons,List.sum_cons,List.length_cons]
  rw[Nat.mul_add];omega
theorem PD.small {p:Af} (P:PD p):Ge p:=by
 refine⟨⟨⟨P.decls.Cu,by have:=P.decls.len;omega⟩,fun f hf=>(P.Y2 f hf).Cu,by have:=P.Kw;omega⟩,?_⟩
 have h1:=La p.decls P.decls.size
 have h2:=La (f:=XC) (a:=1010) p.funcs fun f hf=>by
  have:=(P.Y2 f hf).par
  have:=(P.Y2 f hf).size
  have h3:=IL f.body
  show f.params.length+B4 f.body.kids≤_
  omega
 have h3:=P.decls.len
 have h4:=P.Kw
 unfold WB
 omega
theorem Nx {b:List Int} (Bb:Bk b) {M:Nat} (hM:2000000≤M) {D:List Ac} {F:List Ar} (hD:GD D) (P:TR F) {p:Int} (h0:0≤p) (h1:p≤100000):Aj (FH M b p F D) fun q=>PD q.1∧0≤q.2∧q.2≤200000:=by
 obtain⟨O,l3,l4⟩:=PR hD
 have hF:=P.sg.fl
 have hF1:=P.sg.Vs
 unfold FH
 rw[AT]
 refine Aj.bind (Bu Bb ⟨by omega,by omega⟩) fun q3 hq3=>?_
 have a1:=hq3.pos;have a2:=hq3.nn;have a3:=hq3.lt (by omega)
 refine Aj.get a2 a3 fun c5 _ hc5=>?_
 have G:=P.ok c5 hc5
 have P0:PD ⟨D,F⟩:=⟨O,by show F.length≤5;omega,P.ok⟩
 have putF :∀{g:Ar},Yp g→PD ⟨D,Sh.put F q3.1 g⟩:=fun hg=>⟨O,by show (Sh.put F _ _).length≤5;unfold Sh.put;simp;omega,fun f hf=>(Ik hf).elim (fun h=>P.ok f h) (fun e=>by rw[e];exact hg)⟩
 refine Aj.bind (R:=fun r:Int×List Ar×List Ac=>PD ⟨r.2.2,r.2.1⟩∧0≤r.1∧r.1≤200000) ?_ fun r hr=>Aj.some ⟨hr.1,hr.2⟩
 refine Aj.bind (Bu Bb ⟨by omega,by omega⟩) fun q13 hq13=>?_
 have b1:=hq13.pos
 refine A0 (fun _=>?_) fun _=>?_
 ·unfold NF
  have hs:=P.sz c5 hc5
  exact Aj.bind (W7 Bb hM M c5.body q13.2 (by omega) (by omega) G.Cu.body (by omega) (by omega)) fun r ⟨r1,r2,r3,r4⟩=>Aj.some ⟨putF ⟨⟨G.Cu.params,G.Cu.result,r2⟩,G.par,by show en r.1≤_;omega⟩,by show 0≤r.2;omega,by show r.2≤_;omega⟩
 refine A0 (fun _=>?_) fun _=>?_
 ·refine Aj.bind (Ew Bb ⟨by omega,by omega⟩ (by simp) (by simp)) fun x hx=>?_
  have x1:=hx.pos;have x2:=hx.mem
  simp only[List.mem_cons,List.not_mem_nil,or_false] at x2
  have hp:=P.sg.par c5 hc5
  refine AY (G8 (by omega) (by simp)) (Aj.some ⟨putF ⟨⟨⟨fun y hy=>?_,by show (c5.params ++ [x.1]).length≤_;simp;omega⟩,G.Cu.result,G.Cu.body⟩,by show (c5.params ++ [x.1]).length≤4;simp;omega,G.size⟩,by show 0≤x.2;omega,by show x.2≤_;omega⟩)
  rcases List.mem_append.1 (show y∈c5.params ++ [x.1] from hy) with h | h
  ·exact G.Cu.params.1 y h
  ·rw[List.mem_singleton] at h;rw[h];exact Cd (by omega) (by omega)
 refine A0 (fun _=>?_) fun _=>?_
 ·refine Aj.bind (Ew Bb ⟨by omega,by omega⟩ (by simp) (by simp)) fun x hx=>?_
  have x1:=hx.pos;have x2:=hx.mem
  simp only[List.mem_cons,List.not_mem_nil,or_false] at x2
  exact Aj.some ⟨putF ⟨⟨G.Cu.params,(Cd (by omega) (by omega):I6 x.1),G.Cu.body⟩,G.par,G.size⟩,by show 0≤x.2;omega,by show x.2≤_;omega⟩
 refine A0 (fun _=>?_) fun _=>?_
 ·refine Aj.bind (RH Bb (p:=q13.2) (by omega) (by omega)) fun r ⟨r1,r2,r3⟩=>Aj.some ⟨⟨r1,by show F.length≤5;omega,P.ok⟩,by show 0≤r.2;omega,by show r.2≤_;omega⟩
 refine A0 (fun _=>?_) fun _=>Aj.some ⟨P0,by show 0≤q13.2;omega,by show q13.2≤_;omega⟩
 refine Aj.app (by simp;omega) (by simp;omega) (Aj.some ⟨⟨O,by show (F ++ [c5]).length≤5;simp;omega,fun f hf=>?_⟩,by show 0≤q13.2;omega,by show q13.2≤_;omega⟩)
 rcases List.mem_append.1 (show f∈F ++ [c5] from hf) with h | h
 ·exact P.ok f h
 ·rw[List.mem_singleton] at h;rw[h];exact G
theorem PZ {b:List Int} (Bb:Bk b) {M:Nat} (hM:2000000≤M) {p:Int} (h0:0≤p) (h1:p≤1000):Aj (F3 M b p) fun q=>PD q.1∧0≤q.2∧q.2≤200000:=by
 unfold F3
 refine Aj.bind (O1 Bb hM h0 h1) fun q ⟨q1,q2,q3,q4⟩=>?_
 refine Aj.bind (Nx Bb hM q1 q2 q3 q4) fun r hr=>Aj.some hr
theorem NO {code:List Int} (h8 :∀x∈code,U8 x) (hl:code.length≤1048576) {M:Nat} (hM:2000000≤M):Aj (E3 M code) fun q=>PD q.1∧-1≤q.2∧q.2≤4:=by
 unfold E3
 refine Aj.bind (QO h8 hl) fun q3 ⟨Bb,hq⟩=>?_
 refine Aj.bind (PZ Bb hM (by omega) (by omega)) fun q5 ⟨P,p0,p1⟩=>?_
 refine Aj.bind (R:=fun t=>-1≤t∧t≤4) ?_ fun t ht=>Aj.some ⟨P,ht⟩
 refine Aj.bind (Ew Bb ⟨by omega,by omega⟩ (by simp) (by simp)) fun x hx=>Aj.some ?_
 have x2:=hx.mem
 simp only[List.mem_cons,List.not_mem_nil,or_false] at x2
 show -1≤x.1∧x.1≤4
 omega
end RC



namespace RC
open Go
def lf (left:Int) (s:Nat):Int:=if left - s < 0 then -1 else left - s
end RC



namespace RC
open Go
end RC



namespace RC
open Go
def Zi (o:Int):Bool:=decide (14≤o) && decide (o≤17)
mutual
def us (v:Int):Step→Nat | .mk o _ _ a k=>if Zi o then 0 else a.countP (fun x=>decide (x=v)) + uk v k
def uk (v:Int):List (Il Step)→Nat | []=>0 | b :: k=>ub v b+uk v k
def ub (v:Int):Il Step→Nat | ⟨ss,r⟩=>(if r=v then 1 else 0) + ul v ss
def ul (v:Int):List Step→Nat | []=>0 | s :: l=>us v s+ul v l
end
end RC



namespace RC
open Go
section
variable {D : List Ac} {G : List BW} {ks : List Int} {op num : Int} {N : Nat}
end
end RC



namespace RC
open Go
section
variable {n : GF} {R1 : GF → List Int → Block → Option Int} {R2 : BF → List Int → Block → Option Int} {T : List Int → Block → Int} {s : Step} {v : List Int} {N : Nat}
end
end RC



namespace RC
open Go
section
variable {n : GF} {R1 : GF → List Int → Block → Option Int} {R2 : BF → List Int → Block → Option Int} {T : List Int → Block → Int} {s : Step} {v : List Int} {N : Nat}
end
end RC



namespace RC
open Go
section
variable {n : GF} {R1 : GF → List Int → Block → Option Int} {R2 : BF → List Int → Block → Option Int} {T : List Int → Block → Int} {s : Step} {v : List Int} {N : Nat} {b : Bool}
end
end RC



namespace RC
open Go
section
variable {n : GF} {R1 : GF → List Int → Block → Option Int} {R2 : BF → List Int → Block → Option Int} {T : List Int → Block → Int} {s : Step} {v : List Int} {N : Nat} {b : Bool}
end
end RC



namespace RC
open Go
section
variable {n : GF} {R1 : GF → List Int → Block → Option Int} {R2 : BF → List Int → Block → Option Int} {T : List Int → Block → Int} {s : Step} {v : List Int} {N : Nat} {b : Bool}
end
end RC



namespace RC
open Go
section
variable {n : GF} {R1 : GF → List Int → Block → Option Int} {R2 : BF → List Int → Block → Option Int} {T : List Int → Block → Int} {b : Block} {v : List Int} {N : Nat}
end
end RC



namespace RC
open Go
end RC



namespace RC
open Go
end RC



namespace RC
open Go
mutual
def ms:Step→Nat | .mk _ _ _ a k=>3+a.length+ZO k
def ZO:List (Il Step)→Nat | []=>0 | b :: k=>mb b+ZO k
def mb:Il Step→Nat | ⟨ss,_⟩=>Zt ss+1
def Zt:List Step→Nat | []=>0 | s :: l=>ms s+Zt l
end
end RC


namespace RC
end RC


namespace RC
end RC


namespace RC
end RC



namespace RC
open Go
end RC



namespace RC
open Go
end RC


namespace RC
end RC

