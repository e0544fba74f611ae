import Derived.Test.YtpahalfiiahddaaGPlainAToYGE
import Derived.Test.YtpahalfiiahddaaGHADefsToFCDefs
import Derived.Test.YtpahalfiiahddaaGEncCToSSDefs

namespace RC
open Go
theorem Xe (n:Int):Ij (Sh.w n):=by
 unfold Sh.w Ij
 rw[IntKind.wrap_i64];omega
def cn (l:List Int):GN:=⟨l⟩
def gD:List Ac:=[⟨0,0,[⟨[]⟩,⟨[0,1]⟩]⟩,⟨0,0,[]⟩,⟨0,0,[⟨[]⟩,⟨[3,0,3]⟩]⟩]
def gL:List Ac:=[⟨0,0,[⟨[1,3]⟩]⟩,⟨1,0,[]⟩,⟨0,0,[⟨[1,1,0]⟩,⟨[0]⟩,⟨[3]⟩]⟩,⟨0,1,[]⟩]
def GD (D:List Ac):Prop:=D=gD∨∃d∈gL,D=gD ++ [d]
theorem LQ {b:List Int} (Bb:Bk b) {p:Int} (h0:0≤p) (h1:p≤500000):Ak (E5 b p) fun q=>GD q.1∧q.2=p+1:=by
 unfold E5
 refine AY rfl (AY rfl (AY rfl (AY rfl (AY rfl (AY rfl (AY rfl (AY rfl ?_)))))))
 refine Ak.bind (Bu Bb ⟨by omega,by omega⟩) fun q hq=>?_
 have q1:=hq.pos;have q2:=hq.nn;have q3:=hq.lt (by omega)
 refine Ak.bind (R:=GD) ?_ fun l hl=>Ak.some ⟨hl,q1⟩
 refine A2 (fun _=>?_) fun _=>Ak.some (.inl rfl)
 refine Ak.get q2 (by simp;omega) fun c _ hc=>?_
 refine Ak.app (by simp) (by simp) (Ak.some (.inr ⟨c,?_,rfl⟩))
 exact hc
structure Yi (F:List Ar):Prop where
 fl:F.length≤4
 VV:1≤F.length
 par :∀f∈F,f.params.length≤3
 cl :∀f∈F,(∀x∈f.params,x=0∨x=1∨x=3)∨(f.params=[2,1]∧f.result=1)
theorem CX.of {D:List Ac} {F:List Ar} (hD:GD D) (S:Yi F):CX D F:=by
 have all :∀{D:List Ac},D.length≤4→nc D≤7→(∀d∈D,d.cons.length≤3)→(∀d∈D,∀c∈d.cons,c.fields.length≤3∧∀x∈c.fields,x=0∨x=1∨x=3)→Ct D 1=[0,1]→Ct D 3=[2,3]→
   FQ D 0 0=some (1,⟨[]⟩)→FQ D 0 1=some (1,⟨[0,1]⟩)→FQ D 0 2=some (3,⟨[]⟩)→FQ D 0 3=some (3,⟨[3,0,3]⟩)→F3 1 1 D 0=-1→CX D F:=fun a b c d e f g h i j k=>
  ⟨a,b,c,d,e,f,⟨_,g⟩,⟨_,h⟩,⟨_,i⟩,⟨_,j⟩,k,S.fl,S.VV,S.par,S.cl⟩
 rcases hD with rfl | ⟨d,hd,rfl⟩
 ·exact all (by decide) (by decide) (by decide) (by decide) (by decide) (by decide) rfl rfl rfl rfl (by decide)
 ·simp only[gL,List.mem_cons,List.not_mem_nil,or_false] at hd
  rcases hd with rfl | rfl | rfl | rfl
  all_goals exact all (by decide) (by decide) (by decide) (by decide) (by decide) (by decide) rfl rfl rfl rfl (by decide)
structure Xx (f:Ar):Prop where
 Ck:Qc f
 par:f.params.length≤4
 size:en f.body≤1001
theorem Pt {l:List Int} (hl:l.length≤4) (h :∀x∈l,-1000000≤x∧x≤1000000):Hi Ij l:=⟨fun x hx=>CQ (h x hx).1 (h x hx).2,by omega⟩
structure Sp (F:List Ar):Prop where
 sg:Yi F
 ok :∀f∈F,Xx f
 sz :∀f∈F,en f.body≤1000
theorem IT {α:Type} {l:List α} {i:Int} {x y:α} (h:y∈Sh.put l i x):y∈l∨y=x:=List.mem_or_eq_of_mem_set h
theorem Sp.put {F:List Ar} (P:Sp F) {i:Int} {g:Ar} (hg:g∈F) {e:AP} (he:A3 e) (hs:en e≤1000):Sp (Sh.put F i ⟨g.params,g.result,e⟩):=by
 have hl:(Sh.put F i ⟨g.params,g.result,e⟩).length=F.length:=by unfold Sh.put;simp
 have G:=P.ok g hg
 refine⟨⟨by rw[hl];exact P.sg.fl,by rw[hl];exact P.sg.VV,fun f hf=>?_,fun f hf=>?_⟩,fun f hf=>?_,fun f hf=>?_⟩
 ·rcases IT hf with h | rfl
  ·exact P.sg.par f h
  ·exact P.sg.par g hg
 ·rcases IT hf with h | rfl
  ·exact P.sg.cl f h
  ·exact P.sg.cl g hg
 ·rcases IT hf with h | rfl
  ·exact P.ok f h
  ·exact⟨⟨G.Ck.params,G.Ck.result,he⟩,G.par,by show en e≤_;omega⟩
 ·rcases IT hf with h | rfl
  ·exact P.sz f h
  ·exact hs
theorem OF {b:List Int} (Bb:Bk b) {M:Nat} (hM:2000000≤M) {p:Int} (h0:0≤p) (h1:p≤1000):Ak (E9 M b p) fun q=>GD q.1.decls∧Sp q.1.funcs∧0≤q.2∧q.2≤100000:=by
 unfold E9
 refine Ak.bind (LQ Bb h0 (by omega)) fun q3 ⟨hD,hq3⟩=>?_
 iterate 17 refine AY rfl ?_
 have sigs :∀(l:List Ar),(∀f∈l,f.body=⟨0,0,[]⟩∧f.params.length≤3∧(∀x∈f.params,0≤x∧x≤3)∧(0≤f.result∧f.result≤3)∧((∀x∈f.params,x=0∨x=1∨x=3)∨(f.params=[2,1]∧f.result=1)))→l.length≤4→1≤l.length→Sp l:=fun l h h4 h5=>
  ⟨⟨h4,h5,fun f hf=>(h f hf).2.1,fun f hf=>(h f hf).2.2.2.2⟩,fun f hf=>by
   obtain⟨b1,b2,b3,b4,_⟩:=h f hf
   exact⟨⟨Pt (by omega) fun x hx=>by have:=b3 x hx;omega,CQ (by omega) (by omega),by rw[b1];exact EG ⟨by omega,by omega⟩ ⟨by omega,by omega⟩⟩,by omega,by rw[b1,Hx];omega⟩,fun f hf=>by rw[(h f hf).1,Hx];omega⟩
 have pg :∀{l:List Ar} {f:Int×Int→Ar→Option (Ai×Int)} {s:Int} {Q:Ai×Int→Prop},1≤l.length→0≤s→s≤900000→(∀(q:Int×Int) c,q.2=s+1→c∈l→Ak (f q c) Q)→Ak (Option.bind (Ay b s (Sh.len l)) fun q25=>Option.bind (Sh.get l q25.1) fun c26=>f q25 c26) Q:=fun hl hs0 hs1 k=>by
  rw[Aa]
  refine Ak.bind (Bu Bb ⟨hs0,by omega⟩) fun q hq=>?_
  exact Ak.get hq.nn (hq.lt (by omega)) fun c _ hc=>k q c hq.pos hc
 refine pg (by simp) (by omega) (by omega) fun q25 c26 hq25 hc26=>?_
 refine pg (by simp) (by omega) (by omega) fun q27 c28 hq27 hc28=>?_
 refine pg (by simp) (by omega) (by omega) fun q29 c30 hq29 hc30=>?_
 refine Ak.bind (EZ Bb ⟨by omega,by omega⟩ (by simp) (by simp)) fun q32 hq32=>?_
 have o1:=hq32.pos
 have o2:=hq32.mem
 simp only[List.mem_cons,List.not_mem_nil,or_false] at o2
 obtain⟨n,hn⟩:=Int.eq_ofNat_of_zero_le (by omega:0≤q32.1)
 rw[hn]
 refine AY (Vl (by simp;omega)) ?_
 generalize hl:([(Ar.mk [] 0 (AP.mk 0 0 [])),c26,c28,c30].take n)=l34
 have hlen:l34.length=n:=by rw[← hl];simp;omega
 have hall :∀f∈l34,f.body=⟨0,0,[]⟩∧f.params.length≤3∧(∀x∈f.params,0≤x∧x≤3)∧(0≤f.result∧f.result≤3)∧((∀x∈f.params,x=0∨x=1∨x=3)∨(f.params=[2,1]∧f.result=1)):=by
  intro f hf
  rw[← hl] at hf
  have:=List.mem_of_mem_take hf
  simp only[List.mem_cons,List.not_mem_nil,or_false] at this hc26 hc28 hc30
  rcases this with rfl | rfl | rfl | rfl
  ·simp
  ·rcases hc26 with rfl | rfl | rfl | rfl | rfl | rfl <;> simp
  ·rcases hc28 with rfl | rfl | rfl | rfl | rfl | rfl <;> simp
  ·rcases hc30 with rfl | rfl | rfl | rfl <;> simp
 have P0:=sigs l34 hall (by omega) (by omega)
 have key :∀(k N:Nat) (z p':Int) (l:List Ar),z=(k:Int) - 1→k < N→k≤4→k≤l.length→Sp l→0≤p'→p' + 7000 * k≤50000→Ak (Cm M b q3 N z p' l) fun r=>Sp r.2∧0≤r.1∧r.1≤60000:=by
  intro k
  induction k with
  | zero=>
   intro N z p' l hz hN _ _ hP g0 g1
   obtain⟨N,rfl⟩ :∃m,N=m+1:=⟨N - 1,by omega⟩
   rw[Cm,if_neg (by rw[decide_eq_true_eq];omega)]
   exact Ak.some ⟨hP,g0,by show p'≤_;omega⟩
  | succ k ih=>
   intro N z p' l hz hN h4 hkl hP g0 g1
   obtain⟨N,rfl⟩ :∃m,N=m+1:=⟨N - 1,by omega⟩
   have hzk:z=(k:Int):=by omega
   subst hzk
   rw[Cm,if_pos (by rw[decide_eq_true_eq];omega)]
   have C:=CX.of hD hP.sg
   refine Ak.bind (Sf C Bb hM (f:=k) (by omega) (p:=p') g0 (by omega)) fun r hr=>?_
   have r1:=hr.lo;have r2:=hr.hi
   obtain⟨g,hg,hgm⟩:=Bq (l:=l) (i:=k) (by omega)
   refine AY (BL hg) ?_
   refine ih N (Sh.w ((k:Int) - 1)) r.2 _ (BN (by omega) (by omega)) (by omega) (by omega) (by unfold Sh.put;simp;omega) (hP.put hgm hr.Ck hr.size) (by omega) (by omega)
 have k:=key n M (Sh.w ((n:Int) - 1)) q32.2 l34 (BN (by omega) (by omega)) (by omega) (by omega) (by omega) P0 (by omega) (by omega)
 refine Ak.bind k ?_
 rintro⟨f40,l41⟩ ⟨a1,a2,a3⟩
 exact Ak.some ⟨hD,a1,a2,by show f40≤_;dsimp only at a3;omega⟩
theorem Nq {M:Nat} (hM:2000000≤M) :∀(n:Nat) (l:List AP),B2 l < n→B2 l≤100000→De M n l=some l:=by
 intro n
 induction n with
 | zero=>intro l h;omega
 | succ n ih=>
  intro l hn hs
  rw[De]
  unfold GX
  have hl:=IF l
  have key :∀{N i:Nat},i≤l.length→l.length - i < N→CR l (De M n) N i (l.take i)=some l:=by
   intro N i hi hN
   refine Bl l.length (fun N i=>CR l (De M n) N i (l.take i)=some l) ?_ ?_ hi hN
   ·intro m;rw[CR,if_neg (by simp[Aa]),List.take_length]
   ·intro m i hi ih2
    obtain⟨e,he,hem⟩:=Bq hi
    have h1:=LM hem
    have h2:=G5 e
    rw[CR,if_pos (by rw[decide_eq_true_eq,Aa];omega),BL he]
    unfold Ho
    simp only[Option.bind_some]
    rw[ih e.kids (by omega) (by omega)]
    simp only[Option.bind_some]
    rw[GW _ _ 40 (by simp;omega) (by simp;omega),BN (by omega) (by omega),show ((i:Int) + 1)=((i+1:Nat):Int) by omega]
    simp only[Option.bind_some]
    have:(⟨e.op,e.num,e.kids⟩:AP)=e:=by cases e;rfl
    rw[this,← Gs he]
    exact ih2
  have:=key (Nat.zero_le _) (by omega:l.length - 0 < M)
  rw[List.take_zero,show ((0:Nat):Int)=0 from rfl] at this
  rw[this];rfl
theorem TE :∀(l:List AP) (i:Nat) (e x:AP),l[i]?=some e→B2 (l.set i x) + en e=B2 l+en x
 | [],i,e,x,h=>by simp at h
 | a :: l,0,e,x,h=>by
  simp only[List.getElem?_cons_zero,Option.some.injEq] at h
  subst h
  simp only[List.set_cons_zero,B2];omega
 | a :: l,i+1,e,x,h=>by
  have:=TE l i e x (by simpa using h)
  simp only[List.set_cons_succ,B2];omega
theorem W0 {b:List Int} (Bb:Bk b) {M:Nat} (hM:2000000≤M) :∀(n:Nat) (e:AP) (p:Int),en e < n→en e≤1001→A3 e→0≤p→p+5 * en e≤300000→Ak (Gu M n b p e) fun q=>en q.1≤en e+1∧A3 q.1∧p≤q.2∧q.2≤p+5 * en e:=by
 intro n
 induction n with
 | zero=>intro e p h;have:=KK e;omega
 | succ n ih=>
  intro e p hn hs hin h0 h1
  have hee:=G5 e
  have hkl:=IF e.kids
  rw[Gu]
  unfold Im
  refine Ak.bind (R:=fun q:Bool×Int=>(q.1=true→0 < e.kids.length)∧p≤q.2∧q.2≤p+1) ?_ ?_
  ·refine A2 (fun h=>?_) fun _=>Ak.some ⟨(fun h=>by cases h),by show p≤p;omega,by show p≤_;omega⟩
   rw[Aa] at h
   exact Ak.bind (Bu Bb ⟨by omega,by omega⟩) fun q hq=>Ak.some ⟨fun _=>by omega,by have:=hq.pos;show p≤q.2;omega,by have:=hq.pos;show q.2≤_;omega⟩
  ·rintro⟨t4,f5⟩ ⟨g1,g2,g3⟩
   dsimp only at g1 g2 g3 ⊢
   refine Bz (fun h=>?_) fun _=>?_
   ·have hk:=g1 h
    refine AY (Nq hM M e.kids (by omega) (by omega)) ?_
    rw[Aa]
    refine Ak.bind (Bu Bb ⟨by omega,by omega⟩) fun q hq=>?_
    have q1:=hq.pos;have q2:=hq.nn;have q3:=hq.lt (by omega)
    refine Ak.get q2 q3 fun c hc hcm=>?_
    have hcl:=LM hcm
    refine Ak.bind (ih c q.2 (by omega) (by omega) (hin.kids c hcm) (by omega) (by omega)) fun r ⟨r1,r2,r3,r4⟩=>?_
    have hset:=TE e.kids q.1.toNat c r.1 hc
    refine AY rfl (Ak.some ⟨?_,?_,by show p≤r.2;omega,by show r.2≤_;omega⟩)
    ·show en ⟨e.op,e.num,Sh.put e.kids q.1 r.1⟩≤_
     unfold Sh.put
     rw[Ep];omega
    ·show A3 ⟨e.op,e.num,Sh.put e.kids q.1 r.1⟩
     refine G1 hin.op hin.num (fun x hx=>?_) (by unfold Sh.put;simp;omega)
     rcases IT hx with h3 | rfl
     ·exact hin.kids x h3
     ·exact r2
   ·refine Ak.bind (Bu Bb ⟨by omega,by omega⟩) fun q19 hq19=>?_
    have a1:=hq19.pos;have a2:=hq19.nn;have a3:=hq19.lt (by omega)
    have hp:=KK e
    have same :∀{o m:Int},Ij o→Ij m→A3 ⟨o,m,e.kids⟩:=fun ho hm=>G1 ho hm hin.kids (by omega)
    refine A2 (fun _=>?_) fun _=>?_
    ·refine Ak.bind (Bu Bb ⟨by omega,by omega⟩) fun q hq=>?_
     have c1:=hq.pos;have c2:=hq.nn;have c3:=hq.lt (by omega)
     refine AY rfl (Ak.some ⟨?_,same (CQ (by omega) (by omega)) hin.num,by show p≤q.2;omega,by show q.2≤_;omega⟩)
     show en ⟨q.1,e.num,e.kids⟩≤_
     rw[Ep];omega
    refine A2 (fun _=>?_) fun _=>?_
    ·refine Ak.bind (EZ Bb ⟨by omega,by omega⟩ (by simp) (by simp)) fun q hq=>?_
     have c1:=hq.pos
     refine AY rfl (Ak.some ⟨?_,same hin.op (Xe _),by show p≤q.2;omega,by show q.2≤_;omega⟩)
     show en ⟨e.op,Sh.w (e.num+q.1),e.kids⟩≤_
     rw[Ep];omega
    refine A2 (fun _=>?_) fun _=>?_
    ·refine AY (Nq hM M e.kids (by omega) (by omega)) (AY rfl ?_)
     refine Ak.app (by simp;omega) (by simp;omega) (AY rfl (Ak.some ⟨?_,?_,by show p≤q19.2;omega,by show q19.2≤_;omega⟩))
     ·show en ⟨e.op,e.num,e.kids ++ [⟨0,1,[]⟩]⟩≤_
      rw[Ep,HB,FE,Hx];omega
     ·show A3 ⟨e.op,e.num,e.kids ++ [⟨0,1,[]⟩]⟩
      refine .mk hin.op hin.num (by show (e.kids ++ _).length≤_;simp;omega) fun x hx=>?_
      rcases List.mem_append.1 (show x∈e.kids ++ [⟨0,1,[]⟩] from hx) with h3 | h3
      ·exact hin.kids x h3
      ·rw[List.mem_singleton] at h3;rw[h3];exact EG ⟨by omega,by omega⟩ ⟨by omega,by omega⟩
    refine A2 (fun _=>?_) fun _=>?_
    ·refine Ak.bind (EZ Bb ⟨by omega,by omega⟩ (by simp) (by simp)) fun q hq=>?_
     have c1:=hq.pos;have c2:=hq.mem
     simp only[List.mem_cons,List.not_mem_nil,or_false] at c2
     refine AY rfl (Ak.some ⟨?_,EG ⟨by omega,by omega⟩ ⟨by omega,by omega⟩,by show p≤q.2;omega,by show q.2≤_;omega⟩)
     show en ⟨12,q.1,[]⟩≤_
     rw[Hx];omega
    ·refine Ak.bind (EZ Bb ⟨by omega,by omega⟩ (by simp) (by simp)) fun q hq=>?_
     have c1:=hq.pos;have c2:=hq.mem
     simp only[List.mem_cons,List.not_mem_nil,or_false] at c2
     refine AY rfl (Ak.some ⟨?_,EG ⟨by omega,by omega⟩ ⟨by omega,by omega⟩,by show p≤q.2;omega,by show q.2≤_;omega⟩)
     show en ⟨0,q.1,[]⟩≤_
     rw[Hx];omega
structure Q2 (D:List Ac):Prop where
 len:D.length≤6
 Ck :∀d∈D,I3 d
 size :∀d∈D,dz d≤20
theorem WX {f t:Int} {cs:List GN} (hf:-1000000≤f∧f≤1000000) (ht:-1000000≤t∧t≤1000000) (hl:cs.length≤4) (h :∀c∈cs,c.fields.length≤4∧∀x∈c.fields,-1000000≤x∧x≤1000000):I3 ⟨f,t,cs⟩:=
 ⟨CQ hf.1 hf.2,CQ ht.1 ht.2,fun c hc=>⟨Pt (h c hc).1 (h c hc).2⟩,by show cs.length≤_;omega⟩
theorem Xg {f t:Int} {cs:List GN} (hl:cs.length≤4) (h :∀c∈cs,c.fields.length≤4):dz ⟨f,t,cs⟩≤20:=by
 have :∀l:List GN,(∀c∈l,c.fields.length≤4)→(l.map cz).sum≤4 * l.length:=fun l=>by
  induction l with
  | nil=>simp
  | cons c l ih=>
   intro h
   have h1:=h c (by simp)
   have h2:=ih fun c hc=>h c (by simp[hc])
   simp only[List.map_cons,List.sum_cons,List.length_cons]
   have:cz c=c.fields.length:=rfl
   omega
 have h2:=this cs h
 show cs.length+(cs.map cz).sum≤20
 omega
theorem Px {f t:Int} {cs:List GN} (hf:-1000000≤f∧f≤1000000) (ht:-1000000≤t∧t≤1000000) (hl:cs.length≤4) (h :∀c∈cs,c.fields.length≤4∧∀x∈c.fields,-1000000≤x∧x≤1000000):I3 ⟨f,t,cs⟩∧dz ⟨f,t,cs⟩≤20:=
 ⟨WX hf ht hl h,Xg hl fun c hc=>(h c hc).1⟩
theorem Of {D:List Ac} (h:GD D):Q2 D∧3≤D.length∧D.length≤4:=by
 have hall :∀d∈gD ++ gL,I3 d∧dz d≤20:=by
  intro d hd
  simp only[gD,gL,List.cons_append,List.nil_append,List.mem_cons,List.not_mem_nil,or_false] at hd
  rcases hd with rfl | rfl | rfl | rfl | rfl | rfl | rfl <;> exact Px (by decide) (by decide) (by decide) (by decide)
 rcases h with rfl | ⟨d,hd,rfl⟩
 ·exact⟨⟨by decide,fun d hd=>(hall d (List.mem_append_left _ hd)).1,fun d hd=>(hall d (List.mem_append_left _ hd)).2⟩,by decide,by decide⟩
 ·have hm :∀x∈gD ++ [d],x∈gD ++ gL:=fun x hx=>by
   rcases List.mem_append.1 hx with h | h
   ·exact List.mem_append_left _ h
   ·rw[List.mem_singleton] at h;rw[h];exact List.mem_append_right _ hd
  exact⟨⟨by simp[gD],fun x hx=>(hall x (hm x hx)).1,fun x hx=>(hall x (hm x hx)).2⟩,by simp[gD],by simp[gD]⟩
theorem Q2.put {D:List Ac} (h:Q2 D) {i:Int} {d:Ac} (hd:I3 d∧dz d≤20):Q2 (Sh.put D i d):=
 ⟨by unfold Sh.put;simp;exact h.len,fun x hx=>(IT hx).elim (fun h3=>h.Ck x h3) (fun e=>by rw[e];exact hd.1),fun x hx=>(IT hx).elim (fun h3=>h.size x h3) (fun e=>by rw[e];exact hd.2)⟩
theorem Q2.app {D E:List Ac} (h:Q2 D) (hl:D.length+E.length≤6) (hE :∀d∈E,I3 d∧dz d≤20):Q2 (D ++ E):=
 ⟨by simp;omega,fun x hx=>(List.mem_append.1 hx).elim (fun h3=>h.Ck x h3) (fun h3=>(hE x h3).1),fun x hx=>(List.mem_append.1 hx).elim (fun h3=>h.size x h3) (fun h3=>(hE x h3).2)⟩
theorem ZR {α:Type} {l:List α} {i:Nat} (h:i≤l.length):Sh.sl l (i:Int) (Sh.len l)=some (l.drop i):=by
 unfold Sh.sl
 rw[Aa,if_pos (by omega)]
 simp
theorem Qu {b:List Int} (Bb:Bk b) {p:Int} (h0:0≤p) (h1:p≤300000):Ak (Ga b p) fun q=>Q2 q.1∧p≤q.2∧q.2≤p+10:=by
 unfold Ga
 refine Ak.bind (LQ Bb h0 (by omega)) fun q3 ⟨hD,hq3⟩=>?_
 obtain⟨O,l3,l4⟩:=Of hD
 rw[Aa]
 refine Ak.bind (Bu Bb ⟨by omega,by omega⟩) fun q5 hq5=>?_
 have a1:=hq5.pos;have a2:=hq5.nn;have a3:=hq5.lt (by omega)
 refine Ak.bind (R:=fun r:Int×List Ac=>Q2 r.2∧p≤r.1∧r.1≤p+10) ?_ fun r hr=>Ak.some ⟨hr.1,hr.2⟩
 refine Ak.bind (Bu Bb ⟨by omega,by omega⟩) fun q12 hq12=>?_
 have b1:=hq12.pos
 refine A2 (fun _=>?_) fun _=>?_
 ·refine Ak.bind (EZ Bb ⟨by omega,by omega⟩ (by simp) (by simp)) fun x hx=>?_
  have x1:=hx.pos;have x2:=hx.mem
  refine Ak.bind (EZ Bb ⟨by omega,by omega⟩ (by simp) (by simp)) fun y hy=>?_
  have y1:=hy.pos;have y2:=hy.mem
  simp only[List.mem_cons,List.not_mem_nil,or_false] at x2 y2
  exact Ak.get a2 a3 fun c _ _=>Ak.some ⟨O.put (Px (by omega) (by omega) (by decide) (by simp)),by show p≤y.2;omega,by show y.2≤_;omega⟩
 refine A2 (fun _=>?_) fun _=>?_
 ·refine Ak.bind (EZ Bb ⟨by omega,by omega⟩ (by simp) (by simp)) fun x hx=>?_
  have x1:=hx.pos;have x2:=hx.mem
  simp only[List.mem_cons,List.not_mem_nil,or_false] at x2
  refine AY rfl (AY rfl (AY rfl ?_))
  refine Ak.get a2 a3 fun c _ _=>Ak.some ⟨O.put (Px (by omega) (by omega) (by simp) ?_),by show p≤x.2;omega,by show x.2≤_;omega⟩
  intro c hc
  simp only[List.mem_cons,List.not_mem_nil,or_false] at hc
  rcases hc with rfl | rfl | rfl
  ·exact⟨by simp,fun z hz=>by rw[List.mem_singleton] at hz;omega⟩
  ·exact⟨by simp,by simp⟩
  ·exact⟨by simp,by simp⟩
 refine A2 (fun _=>?_) fun _=>?_
 ·refine AY rfl ?_
  rw[BN (n:=q5.1+1) (by omega) (by omega)]
  refine Ak.get a2 a3 fun c _ _=>Ak.some ⟨O.put (Px (by omega) (by omega) (by simp) ?_),by show p≤q12.2;omega,by show q12.2≤_;omega⟩
  intro c hc
  rw[List.mem_singleton] at hc
  rw[hc]
  exact⟨by simp,fun z hz=>by rw[List.mem_singleton] at hz;omega⟩
 refine A2 (fun _=>?_) fun _=>?_
 ·refine Ak.bind (EZ Bb ⟨by omega,by omega⟩ (by simp) (by simp)) fun x hx=>?_
  have x1:=hx.pos;have x2:=hx.mem
  simp only[List.mem_cons,List.not_mem_nil,or_false] at x2
  refine Ak.app (by simp;omega) (by simp;omega) (Ak.some ⟨O.app (by simp;omega) fun d hd=>?_,by show p≤x.2;omega,by show x.2≤_;omega⟩)
  rw[List.mem_singleton] at hd
  rw[hd];exact Px (by omega) (by omega) (by simp) (by simp)
 refine A2 (fun _=>?_) fun _=>?_
 ·refine Ak.bind (Bu Bb ⟨by omega,by omega⟩) fun x hx=>?_
  have x1:=hx.pos;have x2:=hx.nn;have x3:=hx.lt (by omega)
  refine AY rfl (AY rfl (AY rfl (AY rfl ?_)))
  refine Ak.bind (Bu Bb ⟨by omega,by omega⟩) fun y hy=>?_
  have y1:=hy.pos;have y2:=hy.nn;have y3:=hy.lt (by omega)
  obtain⟨k,hk⟩:=Int.eq_ofNat_of_zero_le y2
  rw[hk]
  refine AY (ZR (by simp;omega)) ?_
  refine Ak.get a2 a3 fun c _ _=>Ak.some ⟨O.put (Px (by omega) (by omega) (by simp) ?_),by show p≤y.2;omega,by show y.2≤_;omega⟩
  intro c hc
  have:=List.mem_of_mem_drop hc
  simp only[List.mem_cons,List.not_mem_nil,or_false] at this
  rcases this with rfl | rfl | rfl | rfl <;> exact⟨by simp,by simp⟩
 refine A2 (fun _=>?_) fun _=>?_
 ·refine Ak.app (by simp;omega) (by simp;omega) (Ak.some ⟨O.app (by simp;omega) fun d hd=>?_,by show p≤q12.2;omega,by show q12.2≤_;omega⟩)
  simp only[List.mem_cons,List.not_mem_nil,or_false] at hd
  rcases hd with rfl | rfl <;> exact Px (by omega) (by omega) (by simp) (by simp)
 ·exact Ak.some ⟨O,by show p≤q12.2;omega,by show q12.2≤_;omega⟩
structure PD (p:Ai):Prop where
 decls:Q2 p.decls
 Jo:p.funcs.length≤5
 Xy :∀f∈p.funcs,Xx f
theorem Kt {α:Type} {f:α→Nat} {a:Nat} :∀(l:List α),(∀x∈l,f x≤a)→(l.map f).sum≤a * l.length
 | [],_=>by simp
 | x :: l,h=>by
  have h1:=h x (by simp)
  have h2:=Kt l fun y hy=>h y (by simp[hy])
  simp only[List.map_cons,List.sum_cons,List.length_cons]
  rw[Nat.mul_add];omega
theorem PD.small {p:Ai} (P:PD p):GI p:=by
 refine⟨⟨⟨P.decls.Ck,by have:=P.decls.len;omega⟩,fun f hf=>(P.Xy f hf).Ck,by have:=P.Jo;omega⟩,?_⟩
 have h1:=Kt p.decls P.decls.size
 have h2:=Kt (f:=Wl) (a:=1010) p.funcs fun f hf=>by
  have:=(P.Xy f hf).par
  have:=(P.Xy f hf).size
  have h3:=G5 f.body
  show f.params.length+B2 f.body.kids≤_
  omega
 have h3:=P.decls.len
 have h4:=P.Jo
 unfold WM
 omega
theorem NA {b:List Int} (Bb:Bk b) {M:Nat} (hM:2000000≤M) {D:List Ac} {F:List Ar} (hD:GD D) (P:Sp F) {p:Int} (h0:0≤p) (h1:p≤100000):Ak (Ez M b p F D) fun q=>PD q.1∧0≤q.2∧q.2≤200000:=by
 obtain⟨O,l3,l4⟩:=Of hD
 have hF:=P.sg.fl
 have hF1:=P.sg.VV
 unfold Ez
 rw[Aa]
 refine Ak.bind (Bu Bb ⟨by omega,by omega⟩) fun q3 hq3=>?_
 have a1:=hq3.pos;have a2:=hq3.nn;have a3:=hq3.lt (by omega)
 refine Ak.get a2 a3 fun c5 _ hc5=>?_
 have G:=P.ok c5 hc5
 have P0:PD ⟨D,F⟩:=⟨O,by show F.length≤5;omega,P.ok⟩
 have putF :∀{g:Ar},Xx g→PD ⟨D,Sh.put F q3.1 g⟩:=fun hg=>⟨O,by show (Sh.put F _ _).length≤5;unfold Sh.put;simp;omega,fun f hf=>(IT hf).elim (fun h=>P.ok f h) (fun e=>by rw[e];exact hg)⟩
 refine Ak.bind (R:=fun r:Int×List Ar×List Ac=>PD ⟨r.2.2,r.2.1⟩∧0≤r.1∧r.1≤200000) ?_ fun r hr=>Ak.some ⟨hr.1,hr.2⟩
 refine Ak.bind (Bu Bb ⟨by omega,by omega⟩) fun q13 hq13=>?_
 have b1:=hq13.pos
 refine A2 (fun _=>?_) fun _=>?_
 ·unfold Mr
  have hs:=P.sz c5 hc5
  exact Ak.bind (W0 Bb hM M c5.body q13.2 (by omega) (by omega) G.Ck.body (by omega) (by omega)) fun r ⟨r1,r2,r3,r4⟩=>Ak.some ⟨putF ⟨⟨G.Ck.params,G.Ck.result,r2⟩,G.par,by show en r.1≤_;omega⟩,by show 0≤r.2;omega,by show r.2≤_;omega⟩
 refine A2 (fun _=>?_) fun _=>?_
 ·refine Ak.bind (EZ Bb ⟨by omega,by omega⟩ (by simp) (by simp)) fun x hx=>?_
  have x1:=hx.pos;have x2:=hx.mem
  simp only[List.mem_cons,List.not_mem_nil,or_false] at x2
  have hp:=P.sg.par c5 hc5
  refine AY (Gk (by omega) (by simp)) (Ak.some ⟨putF ⟨⟨⟨fun y hy=>?_,by show (c5.params ++ [x.1]).length≤_;simp;omega⟩,G.Ck.result,G.Ck.body⟩,by show (c5.params ++ [x.1]).length≤4;simp;omega,G.size⟩,by show 0≤x.2;omega,by show x.2≤_;omega⟩)
  rcases List.mem_append.1 (show y∈c5.params ++ [x.1] from hy) with h | h
  ·exact G.Ck.params.1 y h
  ·rw[List.mem_singleton] at h;rw[h];exact CQ (by omega) (by omega)
 refine A2 (fun _=>?_) fun _=>?_
 ·refine Ak.bind (EZ Bb ⟨by omega,by omega⟩ (by simp) (by simp)) fun x hx=>?_
  have x1:=hx.pos;have x2:=hx.mem
  simp only[List.mem_cons,List.not_mem_nil,or_false] at x2
  exact Ak.some ⟨putF ⟨⟨G.Ck.params,(CQ (by omega) (by omega):Ij x.1),G.Ck.body⟩,G.par,G.size⟩,by show 0≤x.2;omega,by show x.2≤_;omega⟩
 refine A2 (fun _=>?_) fun _=>?_
 ·refine Ak.bind (Qu Bb (p:=q13.2) (by omega) (by omega)) fun r ⟨r1,r2,r3⟩=>Ak.some ⟨⟨r1,by show F.length≤5;omega,P.ok⟩,by show 0≤r.2;omega,by show r.2≤_;omega⟩
 refine A2 (fun _=>?_) fun _=>Ak.some ⟨P0,by show 0≤q13.2;omega,by show q13.2≤_;omega⟩
 refine Ak.app (by simp;omega) (by simp;omega) (Ak.some ⟨⟨O,by show (F ++ [c5]).length≤5;simp;omega,fun f hf=>?_⟩,by show 0≤q13.2;omega,by show q13.2≤_;omega⟩)
 rcases List.mem_append.1 (show f∈F ++ [c5] from hf) with h | h
 ·exact P.ok f h
 ·rw[List.mem_singleton] at h;rw[h];exact G
theorem O9 {b:List Int} (Bb:Bk b) {M:Nat} (hM:2000000≤M) {p:Int} (h0:0≤p) (h1:p≤1000):Ak (Fc M b p) fun q=>PD q.1∧0≤q.2∧q.2≤200000:=by
 unfold Fc
 refine Ak.bind (OF Bb hM h0 h1) fun q ⟨q1,q2,q3,q4⟩=>?_
 refine Ak.bind (NA Bb hM q1 q2 q3 q4) fun r hr=>Ak.some hr
theorem MR {code:List Int} (h8 :∀x∈code,U8 x) (hl:code.length≤1048576) {M:Nat} (hM:2000000≤M):Ak (Eh M code) fun q=>PD q.1∧-1≤q.2∧q.2≤4:=by
 unfold Eh
 refine Ak.bind (Po h8 hl) fun q3 ⟨Bb,hq⟩=>?_
 refine Ak.bind (O9 Bb hM (by omega) (by omega)) fun q5 ⟨P,p0,p1⟩=>?_
 refine Ak.bind (R:=fun t=>-1≤t∧t≤4) ?_ fun t ht=>Ak.some ⟨P,ht⟩
 refine Ak.bind (EZ Bb ⟨by omega,by omega⟩ (by simp) (by simp)) fun x hx=>Ak.some ?_
 have x2:=hx.mem
 simp only[List.mem_cons,List.not_mem_nil,or_false] at x2
 show -1≤x.1∧x.1≤4
 omega
theorem MU {code:List Int} (h8 :∀x∈code,U8 x) (hl:code.length≤1048576) {M:Nat} (hM:2000000≤M):Ak (Ei M code) fun q=>PD q.1∧-1≤q.2∧q.2≤4:=by
 unfold Ei
 exact Ak.bind (MR h8 hl hM) fun q hq=>Ak.some hq
end RC



namespace RC
open Go
def lf (left:Int) (s:Nat):Int:=if left - s < 0 then -1 else left - s
end RC



namespace RC
open Go
end RC



namespace RC
open Go
def ZC (o:Int):Bool:=decide (14≤o) && decide (o≤17)
mutual
def us (v:Int):Step→Nat | .mk o _ _ a k=>if ZC o then 0 else a.countP (fun x=>decide (x=v)) + uk v k
def uk (v:Int):List (IH Step)→Nat | []=>0 | b :: k=>ub v b+uk v k
def ub (v:Int):IH Step→Nat | ⟨ss,r⟩=>(if r=v then 1 else 0) + ul v ss
def ul (v:Int):List Step→Nat | []=>0 | s :: l=>us v s+ul v l
end
end RC



namespace RC
open Go
section
variable {D : List Ac} {G : List BY} {ks : List Int} {op num : Int} {N : Nat}
end
end RC



namespace RC
open Go
section
variable {n : F4} {R1 : F4 → List Int → Block → Option Int} {R2 : BI → List Int → Block → Option Int} {T : List Int → Block → Int} {s : Step} {v : List Int} {N : Nat}
end
end RC



namespace RC
open Go
section
variable {n : F4} {R1 : F4 → List Int → Block → Option Int} {R2 : BI → List Int → Block → Option Int} {T : List Int → Block → Int} {s : Step} {v : List Int} {N : Nat}
end
end RC



namespace RC
open Go
section
variable {n : F4} {R1 : F4 → List Int → Block → Option Int} {R2 : BI → List Int → Block → Option Int} {T : List Int → Block → Int} {s : Step} {v : List Int} {N : Nat} {b : Bool}
end
end RC



namespace RC
open Go
section
variable {n : F4} {R1 : F4 → List Int → Block → Option Int} {R2 : BI → List Int → Block → Option Int} {T : List Int → Block → Int} {s : Step} {v : List Int} {N : Nat} {b : Bool}
end
end RC



namespace RC
open Go
section
variable {n : F4} {R1 : F4 → List Int → Block → Option Int} {R2 : BI → List Int → Block → Option Int} {T : List Int → Block → Int} {s : Step} {v : List Int} {N : Nat} {b : Bool}
end
end RC



namespace RC
open Go
section
variable {n : F4} {R1 : F4 → List Int → Block → Option Int} {R2 : BI → List Int → Block → Option Int} {T : List Int → Block → Int} {b : Block} {v : List Int} {N : Nat}
end
end RC



namespace RC
open Go
end RC



namespace RC
open Go
end RC



namespace RC
open Go
mutual
def ms:Step→Nat | .mk _ _ _ a k=>3+a.length+ZD k
def ZD:List (IH Step)→Nat | []=>0 | b :: k=>mb b+ZD k
def mb:IH Step→Nat | ⟨ss,_⟩=>Yj ss+1
def Yj:List Step→Nat | []=>0 | s :: l=>ms s+Yj l
end
end RC


namespace RC
end RC


namespace RC
end RC


namespace RC
end RC



namespace RC
open Go
end RC



namespace RC
open Go
end RC


namespace RC
end RC

