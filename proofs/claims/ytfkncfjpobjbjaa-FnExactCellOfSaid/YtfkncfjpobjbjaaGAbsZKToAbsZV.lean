import Derived.Test.YtfkncfjpobjbjaaSufC
set_option linter.all false
namespace Sh
def apart (i j:Int):Option Unit:=if i=j then none else some ()
end Sh
namespace Go.Abs
open Go
section
variable {F : Nat -> Prop} {os : List Own} {s : St} {a : Act} {w : World} {k : Nat}
variable {α β : Type} {l : List α} {enc : α -> List AV}
theorem OV {i:Int}{x:List AV}:(hole l enc i x).length=l.length:=by unfold hole;simp
section
variable {P : Program} {s : St} {x y : Operand} {t el : TypeId} {size bytes id g m : Nat} {zz : List AV} {n i : Int} {kk : IntKind} {u : α} {z : List AV}
theorem Ph (he:CG P t=some ⟨el,size,bytes,zz⟩)(hx:s.ev x=.own id g m)(hy:s.ev y=.int kk n)(hr:s.st[id]?=some ⟨g,el,size,hole l enc i z⟩)(hm:m=l.length)(hg:Sh.get l n=some u):
  AQ P s (.indexAddr t x y) (.ptr id g n.toNat 0):=λK hk=>by
 show Dp P s.st t (s.ev x) (s.ev y) K;rw[hx,hy];subst hm;exact AL _ he ⟨(Sh.get_some hg).1,(Sh.get_some hg).2.2,AL _ hr ⟨rfl,rfl,by simpa [OV] using hk⟩⟩
end
end
end Go.Abs
namespace Sh
def BK {β:Type}:List (Int×β)->Int->Option β
 | [],_=>none
 | (a,u)::r,k=>if k=a then some u else BK r k
def BX {β:Type}:List (Int×β)->Int->β->List (Int×β)
 | [],k,v=>[(k,v)]
 | (a,u)::r,k,v=>if k=a then (k,v)::r else (a,u)::BX r k v
end Sh
namespace Go.Abs
open Go
def eM {β:Type}(ev:β->AV)(p:Int×β):List AV:=[i64 p.1,ev p.2]
theorem GG {β:Type}{ev:β->AV}(Vs :∀v,(Cc (ev v)).isSome=true)(k:Int):∀(m:List (Int×β)) (l:List MapEntry) (i:Nat),(m.map (eM ev)).map Jk=l.map (λx=>some (x.key,x.val))->
  match Sh.BK m k with
  | none=>Instr.findNow (.int .i64) (.int .i64 k) l i=some none/\∀v,Sh.BX m k v=m++[(k,v)]
  | some u=>∃j e z,Instr.findNow (.int .i64) (.int .i64 k) l i=some (some (i+j,z))/\Cc (ev u)=some z/\l[j]?=some e/\e.key=.int .i64 k/\∀v,Sh.BX m k v=m.set j (k,v)
 | [],[],i,_=>⟨rfl,λ_=>rfl⟩
 | [],_::_,_,h=>by simp at h
 | _::_,[],_,h=>by simp at h
 | (a,u)::m,e::l,i,h=>by
  simp only[SD,T2]at h;obtain⟨h1,h2⟩:=h;obtain⟨z,hz⟩:=TV.1 (Vs u);have hp:Jk (eM ev (a,u))=some (.int .i64 a,z):=by
   show (match Cc (i64 a),Cc (ev u) with|some a,some b=>some (a,b)|_,_=>none)=_;rw[hz];rfl
  rw[hp]at h1;simp only[Rr,Prod.mk.injEq]at h1;by_cases hk:k=a
  ·subst hk;simp only[Sh.BK,R1 rfl];refine⟨0,e,z,?_,hz,rfl,h1.1.symm,λv=>by simp[Sh.BX]⟩;rw[h1.2];simp[Instr.findNow,<- h1.1,Instr.sameNow]
  ·have ih:=GG Vs k m l (i+1) h2;have hf:Instr.findNow (.int .i64) (.int .i64 k) (e::l) i=Instr.findNow (.int .i64) (.int .i64 k) l (i+1):=by
    have hb:(k==a)=false:=by simpa using hk
    simp[Instr.findNow,<- h1.1,Instr.sameNow,hb]
   simp only[Sh.BK,R0 hk];split<;>rename_i hg<;>rw[hg]at ih
   ·exact⟨by rw[hf];exact ih.1,λv=>by simp[Sh.BX,R0 hk,ih.2 v]⟩
   ·obtain⟨j,e',z',q1,q2,q3,q4,q5⟩:=ih;exact⟨j+1,e',z',by rw[hf,q1];congr 3;omega,q2,by simpa using q3,q4,λv=>by simp[Sh.BX,R0 hk,q5 v]⟩
def OP {β:Type}(ev:β->AV)(z0:β):Bool->Option β->AV
 | true,x=>.BB [ev (x.getD z0),.bool x.isSome]
 | false,x=>ev (x.getD z0)
theorem LK {β:Type}(ev:β->AV)(z0:β)(VT:Bool)(x:Option β):OP ev z0 VT x=if VT then .BB [ev (x.getD z0),.bool x.isSome] else ev (x.getD z0):=by cases VT<;>rfl
def FE (P:Program)(T:TypeId):Option AV:=
 match P.underlying T with
 | some (.map kt et)=>match P.underlying kt with
  | some (.int .i64)=>match P.info? et with
   | some i=>match i.zero with
    | some (.int k n)=>some (.int k n)
    | some (.bool b)=>some (.bool b)
    | _=>none
   | none=>none
  | _=>none
 | _=>none
theorem Gd {P:Program}{T:TypeId}{z:AV}(h:FE P T=some z):∃kt et zv,P.underlying T=some (.map kt et)/\P.underlying kt=some (.int .i64)/\Cc z=some zv/\∀w,(zeroValue et).run P w=.ok zv w:=by
 unfold FE at h;split at h<;>try (cases h;done)
 rename_i kt et hT;split at h<;>try (cases h;done)
 rename_i hk;split at h<;>try (cases h;done)
 rename_i i hi;split at h<;>try (cases h;done)
 ·rename_i k n hz;cases h;exact⟨kt,et,_,hT,hk,rfl,λw=>by simp[zeroValue,typeInfo,hi,hz,Result.andThen]⟩
 ·rename_i b hz;cases h;exact⟨kt,et,_,hT,hk,rfl,λw=>by simp[zeroValue,typeInfo,hi,hz,Result.andThen]⟩
section
variable {P : Program} {k : Nat} {ops : Array Oper} {Q : Exit -> St -> Prop} {ds : List (Option Tmp)} {r : List Oper} {n : Nat} {e : Nat -> AV} {st : List Row} {T ty : TypeId} {ps : String} {ed : Array Edge} {t : Tmp} {x y z : Operand} {β : Type} {ev : β -> AV}
theorem OY (hk :∀b,AO P k ops Q (ds++[some t]) r ⟨n,CE e t (.mp b),st++[⟨0,T,1,[[.dv b 0 []]]⟩]⟩):AO P k ops Q ds (⟨some t,.makeMap T none,ty,ps,ed,none⟩::r) ⟨n,e,st⟩:=by
 refine Pe (C:=λst' v=>∃b,st'=st++[⟨0,T,1,[[.dv b 0 []]]⟩]/\v=.mp b) rfl (λF os a w hr=>?_) (λst' v ⟨b,h1,h2⟩=>by subst h1;subst h2;exact hk b);have UL:os.map Own.row=st:=hr.st
 let o:Own:=⟨⟨0,T,1,[[.dv w.heap.size 0 []]]⟩,none,0,λb=>b=w.heap.size⟩
 have T9:∀(i:Nat) (oi:Own),(os++[o])[i]?=some oi->os[i]?=some oi∨(i=os.length/\oi=o):=λi oi hi=>by
  rcases Sb i os.length with h|h|h
  ·rw[Rx h]at hi;exact .inl hi
  ·subst h;simp at hi;exact .inr ⟨rfl,hi.symm⟩
  ·rw[Rz (by omega),SI (by simp;omega)]at hi;cases hi
 have UM:∀(i:Nat) (oi:Own) g,os[i]?=some oi->oi.owns g->g<w.heap.size:=λi oi g hi hg=>(hr.rows i oi hi).lt hg;have Wn:∀g,o.owns g->g=w.heap.size:=λg hg=>by
  simpa [Own.owns,o] using hg
 have h:=hr.Jl (k:=k) (Dz.alloc w (.map #[] 0) none) (by simp) (os':=os++[o]) (Bz.append os [o]) (λi oi hi=>by
   rcases T9 i oi hi with h|⟨_,rfl⟩
   ·exact .inl ⟨h,by simp⟩
   ·refine .inr ⟨Nat.one_pos,by simp[o,AV.kept],λ_=>⟨.inr ⟨_,_,rfl⟩,rfl⟩,by simp[o],λg hg=>?_,⟨λx b s D _ hx hc=>?_,λ_ _ _=>False,λ_ _ _ h=>h.elim,λ_ _ _ _ _ h=>h.elim,λb hb=>by cases hb⟩⟩
    ·have iD:g=w.heap.size:=hg;subst iD;exact⟨λhF=>absurd (hr.CL _ hF) (Th _),by simp,by simp[o]⟩
    ·simp only[o,R6,Rr]at hx;subst hx;simp only[R6,Rr,AV.dv.injEq]at hc;obtain⟨rfl,rfl,rfl⟩:=hc;exact⟨rfl,#[],0,To w _,rfl⟩)
  (λi j oi oj g hi hj WL WM=>by
   rcases T9 i oi hi with h|⟨h,rfl⟩<;>rcases T9 j oj hj with h'|⟨h',rfl⟩
   ·exact hr.inj i j oi oj g h h' WL WM
   ·exact absurd (UM i oi g h WL) (by rw[Wn g WM];exact Th _)
   ·exact absurd (UM j oj g h' WM) (by rw[Wn g WL];exact Th _)
   ·omega)
  (λo' UZ g hg=>by
   rcases SM.1 UZ with h|h
   ·exact .inr ⟨o',h,hg⟩
   ·simp only[SC]at h;subst h;exact .inl (by rw[Wn g hg];exact R3 _))
  (by simp)
 refine⟨_,_,⟨w.heap.size,rfl,rfl⟩,.map (some w.heap.size),w.alloc (.map #[] 0),F,os++[o],?_,?_,by simp[AF],h.2.1⟩
 ·simp[execOp,Instr.makeMap,Result.andThen]
 ·have h1:=h.1;simp only[Sj,SD,TB,UL]at h1;exact h1
theorem LJ {F:Nat->Prop}{os:List Own}{s:St}{a:Act}{w:World}(hr:Rel F os s a w){id g size b:Nat}{el:TypeId}{D:List (List AV)}(T4:s.st[id]?=some ⟨g,el,size,[[.dv b 0 D]]⟩):
  ∃o,os[id]?=some o/\o.row=⟨g,el,size,[[.dv b 0 D]]⟩/\o.BW=none/\o.cap=0/\o.more b/\GZ w b D:=by
 obtain⟨o,ho,h⟩:=hr.row T4;have T6:=hr.rows id o ho;have hx:o.row.xs[0]?=some [.dv b 0 D]:=by rw[h];rfl
 have hn:o.BW=none:=by
  cases hb:o.BW with
  | none=>rfl
  | some bb=>
   obtain⟨_,cur,UK,_⟩:=T6.some bb hb;obtain⟨-,D',_,_,d3⟩:=T6.deep;obtain⟨u,_,hu⟩:=d3 bb hb cur _ _ UK 0 _ 0 b 0 D hx rfl;simp[A9]at hu
 obtain⟨m1,m2⟩:=T6.deep.1 _ b 0 D hn hx rfl;exact⟨o,ho,h,hn,(T6.none hn).2,m1,m2⟩
theorem N1 {C:List Row->AV->Prop}{op:Op}{d:Option Tmp}{gd:Option (Nat×Bool)}(hg:GO ds gd e)(h :∀F os a w,Rel F os ⟨n,e,st⟩ a w->∃st' v,C st' v/\∃z w' F' os',(execOp a.eval ⟨d,op,ty,ps,ed,gd⟩).run P w=.ok (.value z) w'/\Rel F' os' ⟨n,e,st'⟩ a w'/\AF F' w' os' v z/\Ext F os w F' os' w' k)
  (hk :∀st' v,C st' v->AO P k ops Q (ds++[d]) r (St.put ⟨n,e,st'⟩ d v)):AO P k ops Q ds (⟨d,op,ty,ps,ed,gd⟩::r) ⟨n,e,st⟩:=by
 intro hl Vk Uj F os a w hr Q' hQ;have ho:ops[ds.length]?=some ⟨d,op,ty,ps,ed,gd⟩:=by have:=hl 0;simpa using this.symm
 have Yr:Bo n d=true:=Uj _ (by have:=Ro (l:=ops.toList) (i:=ds.length) (by simpa using ho);exact this);have ZG:∀d∈ds,Bo n d=true:=λd hd=>by
  obtain⟨j,hj⟩:=R5.1 hd;have h1:=Vk j d hj;cases hoj:ops[j]? with
  | none=>rw[hoj]at h1;cases h1
  | some oj=>
   rw[hoj]at h1;simp only[SG,Rr]at h1;subst h1;exact Uj oj (by have:=Ro (l:=ops.toList) (i:=j) (by simpa using hoj);exact this)
 have X4 :∀(j:Nat),r[j]?=ops[(ds++[d]).length+j]?:=λj=>by
  have:=hl (j+1);simp only[SK]at this;rw[this];congr 1;simp;omega
 have V5 :∀(j:Nat) d',(ds++[d])[j]?=some d'->(ops[j]?).map (·.dst)=some d':=λj d' hj=>by
  rcases Sb j ds.length with h1|h1|h1
  ·rw[Rx h1]at hj;exact Vk j d' hj
  ·subst h1;rw[Ds,Rr]at hj;rw[ho];simp[hj]
  ·rw[SI (by simp;omega)]at hj;cases hj
 unfold wpList;rcases HM hr Vk ZG (GO.guard (A:=True) (B:=False) hg Ru) with ⟨hw,_⟩|⟨_,h1⟩
 ·rw[R1 hw];obtain⟨st',v,hC,z,w',F',os',h1,h2,h3,h4⟩:=h F os a w hr;refine .inl ?_;unfold Oper.wp;rw[h1];simp only[Oper.upon];refine hk st' v hC X4 V5 (by cases d<;>exact Uj) F' os' _ w' (h2.put Yr h3) Q' λ_ _ _ hp=>hQ _ _ _ (hp.trans h4)
 ·exact h1.elim
theorem P3 {C:List Row->Prop}{op:Op}{gd:Option (Nat×Bool)}(hg:GO ds gd e)(h :∀F os a w,Rel F os ⟨n,e,st⟩ a w->∃st',C st'/\∃w' F' os',(execOp a.eval ⟨none,op,ty,ps,ed,gd⟩).run P w=.ok .skip w'/\Rel F' os' ⟨n,e,st'⟩ a w'/\Ext F os w F' os' w' k)
  (hk :∀st',C st'->AO P k ops Q (ds++[none]) r ⟨n,e,st'⟩):AO P k ops Q ds (⟨none,op,ty,ps,ed,gd⟩::r) ⟨n,e,st⟩:=by
 intro hl Vk Uj F os a w hr Q' hQ;have ho:ops[ds.length]?=some ⟨none,op,ty,ps,ed,gd⟩:=by have:=hl 0;simpa using this.symm
 have ZG:∀d∈ds,Bo n d=true:=λd hd=>by
  obtain⟨j,hj⟩:=R5.1 hd;have h1:=Vk j d hj;cases hoj:ops[j]? with
  | none=>rw[hoj]at h1;cases h1
  | some oj=>
   rw[hoj]at h1;simp only[SG,Rr]at h1;subst h1;exact Uj oj (by have:=Ro (l:=ops.toList) (i:=j) (by simpa using hoj);exact this)
 have X4 :∀(j:Nat),r[j]?=ops[(ds++[(none:Option Tmp)]).length+j]?:=λj=>by
  have:=hl (j+1);simp only[SK]at this;rw[this];congr 1;simp;omega
 have V5 :∀(j:Nat) d',(ds++[(none:Option Tmp)])[j]?=some d'->(ops[j]?).map (·.dst)=some d':=λj d' hj=>by
  rcases Sb j ds.length with h1|h1|h1
  ·rw[Rx h1]at hj;exact Vk j d' hj
  ·subst h1;rw[Ds,Rr]at hj;rw[ho];simp[hj]
  ·rw[SI (by simp;omega)]at hj;cases hj
 unfold wpList;rcases HM hr Vk ZG (GO.guard (A:=True) (B:=False) hg Ru) with ⟨hw,_⟩|⟨_,h1⟩
 ·rw[R1 hw];obtain⟨st',hC,w',F',os',h1,h2,h4⟩:=h F os a w hr;refine .inl ?_;unfold Oper.wp;rw[h1];simp only[Oper.upon];refine hk st' hC X4 V5 Uj F' os' _ w' h2 Q' λ_ _ _ hp=>hQ _ _ _ (hp.trans h4)
 ·exact h1.elim
theorem Oe (Vs :∀v,(Cc (ev v)).isSome=true)(v:β){F:Nat->Prop}{w:World}{os:List Own}{u:Value}(h:Cc (ev v)=some u):AF F w os (ev v) u:=by
 cases hx:ev v<;>rw[hx]at h<;>simp only[Cc]at h<;>cases h<;>simp[AF]
theorem Kz {F:Nat->Prop}{w:World}{os:List Own}{b:Nat}{m:List (Int×β)}{kk:Int}{zz:AV}{z0:β}(hT:FE P T=some zz)(Vs :∀v,(Cc (ev v)).isSome=true)(hz:ev z0=zz)(hM:GZ w b (m.map (eM ev)))(VT:Bool):
  ∃u,(Instr.lookup T (.map (some b)) (.int .i64 kk) VT).run P w=.ok u w/\AF F w os (if VT then .BB [ev ((Sh.BK m kk).getD z0),.bool (Sh.BK m kk).isSome] else ev ((Sh.BK m kk).getD z0)) u:=by
 obtain⟨kt,et,zv,hT1,hT2,hT3,hT4⟩:=Gd hT;obtain⟨es,clock,hb,hes⟩:=hM;have hf:=GG Vs kk m es.toList 0 hes;have YE:∀q,(Instr.checkKey q 10000 kt (.int .i64 kk)).run P w=.ok () w:=λq=>Tj hT2 (d:=.int .i64) (by simp[MapKept.IsKey]) q 9999;cases hg:Sh.BK m kk with
 | none=>
  rw[hg]at hf;refine⟨if VT then .tuple #[zv,.bool false] else zv,?_,?_⟩
  ·simp only[Instr.lookup,SW,SN hT1,TG hb,TD hT2 hf.1,YE,hT4,SH,SY]
  ·have h0:AF F w os (ev z0) zv:=Oe Vs z0 (by rw[hz];exact hT3);cases VT
   ·simpa using h0
   ·simp only[Sr,Tz,Option.isSome_none,AF];exact⟨[zv,.bool false],rfl,by simp[Ad,AF,h0]⟩
 | some u=>
  rw[hg]at hf;obtain⟨j,e',z',q1,q2,_,_,_⟩:=hf;refine⟨if VT then .tuple #[z',.bool true] else z',?_,?_⟩
  ·simp only[Instr.lookup,SW,SN hT1,TG hb,TD hT2 q1,YE,SH,SY]
  ·have h0:AF F w os (ev u) z':=Oe Vs u q2;cases VT
   ·simpa using h0
   ·simp only[Sr,Sv,Option.isSome_some,AF];exact⟨[z',.bool true],rfl,by simp[Ad,AF,h0]⟩
section
variable {m : List (Int × β)} {kk : Int} {zz : AV} {z0 : β} {gd : Option (Nat × Bool)} {b id g size : Nat} {el : TypeId} {st' : List Row}
theorem look_nil {F:Nat->Prop}{w:World}{os:List Own}{kk:Int}{zz:AV}{z0:β}(hT:FE P T=some zz)(Vs :∀v,(Cc (ev v)).isSome=true)(hz:ev z0=zz)(VT:Bool):
  ∃u,(Instr.lookup T (.map none) (.int .i64 kk) VT).run P w=.ok u w/\AF F w os (if VT then .BB [ev ((Sh.BK ([]:List (Int×β)) kk).getD z0),.bool (Sh.BK ([]:List (Int×β)) kk).isSome] else ev ((Sh.BK ([]:List (Int×β)) kk).getD z0)) u:=by
 obtain⟨kt,et,zv,hT1,hT2,hT3,hT4⟩:=Gd hT;have YE:∀q,(Instr.checkKey q 10000 kt (.int .i64 kk)).run P w=.ok () w:=λq=>Tj hT2 (d:=.int .i64) (by simp[MapKept.IsKey]) q 9999;have hf:Instr.findNow (.int .i64) (.int .i64 kk) [] 0=some none:=rfl;have h0:AF F w os (ev z0) zv:=Oe Vs z0 (by rw[hz];exact hT3);refine⟨if VT then .tuple #[zv,.bool false] else zv,?_,?_⟩
 ·simp only[Instr.lookup,SW,SN hT1,TD hT2 hf,YE,hT4,SH,SY]
 ·cases VT
  ·simpa [Sh.BK] using h0
  ·simp only[Sr,Sh.BK,Tz,Option.isSome_none,AF];exact⟨[zv,.bool false],rfl,by simp[Ad,AF,h0]⟩
theorem Ns (VT:Bool)(hg:GO ds gd e)(hT:FE P T=some zz)(Vs :∀v,(Cc (ev v)).isSome=true)(hz:ev z0=zz)(hx:St.ev ⟨n,e,st⟩ x=.mp b)(hr:st[id]?=some ⟨g,el,size,[[.dv b 0 (m.map (eM ev))]]⟩)(hy:St.ev ⟨n,e,st⟩ y=i64 kk)
  (hk:AO P k ops Q (ds++[some t]) r ⟨n,CE e t (OP ev z0 VT (Sh.BK m kk)),st⟩):AO P k ops Q ds (⟨some t,.lookup T x y VT,ty,ps,ed,gd⟩::r) ⟨n,e,st⟩:=by
 refine N1 (C:=λst' v=>st'=st/\v=OP ev z0 VT (Sh.BK m kk)) hg (λF os a w Uk=>?_) (λst' v ⟨h1,h2⟩=>by subst h1;subst h2;exact hk);obtain⟨o,_,_,_,_,_,hM⟩:=LJ Uk hr;obtain⟨u,h1,h2⟩:=Kz (F:=F) (os:=os) (kk:=kk) hT Vs hz hM VT;rw[<- LK]at h2;have e1:=Uk.ev x;rw[hx]at e1;simp only[AF]at e1;have e2:=Uk.ev y;rw[hy]at e2;simp only[AF]at e2;refine⟨st,_,⟨rfl,rfl⟩,u,w,F,os,?_,Uk,h2,BN _ _ _ _⟩;simp only[execOp,SW,e1,e2,h1,SH,SY]
theorem Nl (VT:Bool)(hg:GO ds gd e)(hT:FE P T=some zz)(Vs :∀v,(Cc (ev v)).isSome=true)(hz:ev z0=zz)(hx:St.ev ⟨n,e,st⟩ x=.mv (m.map (eM ev)))(hy:St.ev ⟨n,e,st⟩ y=i64 kk)
  (hk:AO P k ops Q (ds++[some t]) r ⟨n,CE e t (OP ev z0 VT (Sh.BK m kk)),st⟩):AO P k ops Q ds (⟨some t,.lookup T x y VT,ty,ps,ed,gd⟩::r) ⟨n,e,st⟩:=by
 refine N1 (C:=λst' v=>st'=st/\v=OP ev z0 VT (Sh.BK m kk)) hg (λF os a w Uk=>?_) (λst' v ⟨h1,h2⟩=>by subst h1;subst h2;exact hk);have e1:=Uk.ev x;rw[hx]at e1;simp only[AF]at e1;obtain⟨u,h1,h2⟩ :∃u,(Instr.lookup T (a.eval x) (.int .i64 kk) VT).run P w=.ok u w/\AF F w os (OP ev z0 VT (Sh.BK m kk)) u:=by
  rcases e1 with ⟨hD,e1⟩|⟨bb,e1,_,hM⟩
  ·rw[e1];obtain rfl:m=[]:=by simpa using hD
   rw[LK];exact look_nil hT Vs hz VT
  ·rw[e1,LK];exact Kz (F:=F) (os:=os) (kk:=kk) hT Vs hz hM VT
 have e2:=Uk.ev y;rw[hy]at e2;simp only[AF]at e2;refine⟨st,_,⟨rfl,rfl⟩,u,w,F,os,?_,Uk,h2,BN _ _ _ _⟩;simp only[execOp,SW,e2,h1,SH,SY]
theorem PC {w:World}{v:β}{u:Value}(hT:FE P T=some zz)(Vs :∀v,(Cc (ev v)).isSome=true)(hu:Cc (ev v)=some u)(hM:GZ w b (m.map (eM ev))):
  ∃es clock,(Instr.mapUpdate T (.map (some b)) (.int .i64 kk) u).run P w=.ok () { w with heap:=w.heap.setIfInBounds b (.map es clock) }/\b<w.heap.size/\((Sh.BX m kk v).map (eM ev)).map Jk=es.toList.map λx=>some (x.key,x.val):=by
 obtain⟨kt,et,zv,hT1,hT2,hT3,hT4⟩:=Gd hT;obtain⟨es,clock,hb,hes⟩:=hM;have UM:b<w.heap.size:=(Sd.1 hb).1;have hf:=GG Vs kk m es.toList 0 hes;have hk:MapKept.IsKey (.int .i64) (.int .i64 kk):=by simp[MapKept.IsKey]
 have YE:∀q,(Instr.checkKey q 10000 kt (.int .i64 kk)).run P w=.ok () w:=λq=>Tj hT2 hk q 9999;have hp:Jk (eM ev (kk,v))=some (.int .i64 kk,u):=by
  show (match Cc (i64 kk),Cc (ev v) with|some a,some b=>some (a,b)|_,_=>none)=_;rw[hu];rfl
 cases hg:Sh.BK m kk with
 | none=>
  rw[hg]at hf;refine⟨es.push { key:=.int .i64 kk,val:=u,born:=clock },clock+1,?_,UM,?_⟩
  ·simp only[Instr.mapUpdate,SW,SN hT1,TG hb,TD hT2 hf.1,YE,MapKept.run_setObj_map _ hb,SH]
  ·rw[hf.2,Sj,Sj,hes];simp[hp]
 | some u0=>
  rw[hg]at hf;obtain⟨j,e',z',q1,q2,q3,q4,q5⟩:=hf;have hj:es[j]?=some e':=by simpa using q3
  refine⟨es.modify j λe=>{ e with key:=.int .i64 kk,val:=u },clock,?_,UM,?_⟩
  ·simp[Instr.mapUpdate,SN hT1,TG hb,YE,TD hT2 q1,hj,q4,MapKept.run_keyThatStays hk,MapKept.run_setObj_map _ hb,Result.andThen]
  ·rw[q5,Sf,Sf,hes,hp];have Vr:j<es.size:=(Sd.1 hj).1;refine TZ λi=>?_;rw[Tp];simp only[Rs,TI,Array.getElem?_modify,SF,S5];by_cases hi:j=i
   ·subst hi;simp[Vr,hj]
   ·simp[hi]
theorem Oh {v:β}(hg:GO ds gd e)(hT:FE P T=some zz)(Vs :∀v,(Cc (ev v)).isSome=true)(hx:St.ev ⟨n,e,st⟩ x=.mp b)(hr:st[id]?=some ⟨g,el,size,[[.dv b 0 (m.map (eM ev))]]⟩)(hy:St.ev ⟨n,e,st⟩ y=i64 kk)(hz:St.ev ⟨n,e,st⟩ z=ev v)
  (UL:st.set id ⟨g,el,size,[[.dv b 0 ((Sh.BX m kk v).map (eM ev))]]⟩=st') (hk:AO P k ops Q (ds++[none]) r ⟨n,e,st'⟩):AO P k ops Q ds (⟨none,.mapUpdate T x y z,ty,ps,ed,gd⟩::r) ⟨n,e,st⟩:=by
 subst UL;refine P3 (C:=λst'=>st'=st.set id ⟨g,el,size,[[.dv b 0 ((Sh.BX m kk v).map (eM ev))]]⟩) hg (λF os a w Uk=>?_) (λst' h1=>by subst h1;exact hk);obtain⟨o,ho,hor,hbn,V0,Xg,hM⟩:=LJ Uk hr;have T6:=Uk.rows id o ho;have VY:=(Rq.1 ho).1;have e1:=Uk.ev x;rw[hx]at e1;simp only[AF]at e1;have e2:=Uk.ev y;rw[hy]at e2;simp only[AF]at e2;obtain⟨u,hu⟩:=TV.1 (Vs v);have e3:=Uk.ev z;rw[hz]at e3;have e3:a.eval z=u:=by
  cases hx:ev v<;>rw[hx]at hu e3<;>simp only[Cc]at hu<;>cases hu<;>simpa [AF] using e3
 obtain⟨es,clock,h1,UM,h2⟩:=PC (kk:=kk) hT Vs hu hM
 let w':World:={ w with heap:=w.heap.setIfInBounds b (.map es clock) }
 let o':Own:={ o with row:={ o.row with xs:=[[.dv b 0 ((Sh.BX m kk v).map (eM ev))]] } }
 have Yd:¬ F b:=(T6.mo b Xg).1;have iE:Dz w w' (some b):=⟨rfl,rfl,rfl,by simp[w'],λi _ hi=>by simp[w',Array.getElem?_setIfInBounds,show ¬ b=i from λh=>hi (by rw[h])]⟩
 have cn:w'.heap[b]?=some (.map es clock):=by simp[w',UM]
 have T9:∀(i:Nat) (oi:Own),(os.set id o')[i]?=some oi->(i≠id/\os[i]?=some oi)∨(i=id/\oi=o'):=λi oi hi=>by
  by_cases e:i=id
  ·subst e;rw[Rw VY,Rr]at hi;exact .inr ⟨rfl,hi.symm⟩
  ·rw[R2 (Sc e)]at hi;exact .inl ⟨e,hi⟩
 have h:=Uk.Jl (k:=k) iE (λi hi=>by cases hi;exact Yd) (os':=os.set id o') (Bz.set ho (R3 _) rfl λ_=>⟨rfl,rfl,by simp[o',hor]⟩) (λi oi hi=>by
   rcases T9 i oi hi with ⟨Ua,h⟩|⟨_,rfl⟩
   ·exact .inl ⟨h,λc hc e=>by cases e;exact Ua (Uk.inj i id oi o b h ho hc (.inr Xg))⟩
   ·refine .inr ⟨T6.pos,λy hy=>?_,λ_=>⟨.inr ⟨_,_,rfl⟩,V0⟩,λc hc=>(by rw[show o.BW=some c from hc]at hbn;cases hbn),λc hc=>⟨(T6.mo c hc).1,by simpa [w'] using (T6.mo c hc).2.1,(T6.mo c hc).2.2⟩,⟨λx b' s D _ hx hc=>?_,λ_ _ _=>False,λ_ _ _ h=>h.elim,λ_ _ _ _ _ h=>h.elim,λc hc=>(by rw[show o.BW=some c from hc]at hbn;cases hbn)⟩⟩
    ·simp only[o',SC]at hy;subst hy;have:=(T6.lens [.dv b 0 (m.map (eM ev))] (by rw[hor];simp)).1;exact⟨by simpa [o'] using this,by simp[AV.kept]⟩
    ·simp only[o',R6,Rr]at hx;subst hx;simp only[R6,Rr,AV.dv.injEq]at hc;obtain⟨rfl,rfl,rfl⟩:=hc;exact⟨Xg,es,clock,cn,h2⟩)
  (λi j oi oj c hi hj aT YJ=>by
   rcases T9 i oi hi with ⟨q,h⟩|⟨rfl,rfl⟩<;>rcases T9 j oj hj with ⟨q',h'⟩|⟨h',rfl⟩
   ·exact Uk.inj i j oi oj c h h' aT YJ
   ·subst h';exact Uk.inj i j oi o c h ho aT YJ
   ·exact Uk.inj i j o oj c ho h' aT YJ
   ·exact h'.symm)
  (λo1 ay c hc=>by
   obtain⟨i,hi⟩:=Sz ay;rcases T9 i o1 hi with ⟨_,h⟩|⟨_,rfl⟩
   ·exact .inr ⟨o1,Ro h,hc⟩
   ·exact .inr ⟨o,Ro ho,hc⟩)
  (λc hc=>by cases hc;exact⟨o,Ro ho,.inr Xg⟩)
 refine⟨_,rfl,w',F,os.set id o',?_,?_,h.2.1⟩
 ·simp only[execOp,SW,e1,e2,e3,h1,SH,SY];first|done|rfl
 ·have h1:=h.1;have UL:os.map Own.row=st:=Uk.st;have e0:o'.row=⟨g,el,size,[[.dv b 0 ((Sh.BX m kk v).map (eM ev))]]⟩:=by simp[o',hor]
  rw[Sf,UL,e0]at h1;exact h1
end
end
end Go.Abs
namespace Go.Abs
open Go
theorem HY {b:Nat}{D:List (List AV)}:Au [[.dv b 0 D]]:=λx hx c hc=>by
 simp only[SC]at hx;subst hx;simp only[SC]at hc;subst hc;rfl
def Ft (b:Nat)(D:List (List AV)):AV->AV
 | .mp b'=>if b'=b then .mv D else .mp b'
 | v=>v
def Pv (b:Nat)(D:List (List AV)):AV->AV
 | .agg cs=>.agg (cs.map (Ft b D))
 | .BB cs=>.BB (cs.map (Ft b D))
 | v=>Ft b D v
def EX (b:Nat)(D:List (List AV))(row:Row):Row:={ row with xs:=row.xs.map (·.map (Ft b D)) }
theorem QD {b:Nat}{D:List (List AV)}{c:AV}{x s:Nat}{ys:List (List AV)}(h:Ft b D c=.dv x s ys):c=.dv x s ys:=by
 cases c<;>simp only[Ft]at h<;>first|exact h|(split at h<;>cases h)
theorem OD {b:Nat}{D:List (List AV)}{c:AV}(h:c.kept=true):(Ft b D c).kept=true:=by
 cases c<;>simp only[Ft]<;>first|exact h|(split<;>rfl)
theorem MD {b:Nat}{D:List (List AV)}{c:AV}(h:BQ c=true):Ft b D c=c:=by
 cases c<;>simp[BQ,simple]at h<;>rfl
inductive FR (b:Nat) (D:List (List AV)):List Row->List Row->Prop
 | nil:FR b D [] []
 | deep {g size:Nat} {el:TypeId} {xs:List (List AV)} {r r':List Row} (hp:Au xs) (hl:FR b D r r'):FR b D (⟨g,el,size,xs⟩::r) (⟨g,el,size,xs⟩::r')
 | raw {g size:Nat} {el:TypeId} {cs cs':List AV} {r r':List Row} (hc:cs.map (Ft b D)=cs') (hl:FR b D r r'):FR b D (⟨g,el,size,[cs]⟩::r) (⟨g,el,size,[cs']⟩::r')
theorem FR.pure {b:Nat}{D:List (List AV)}{g size:Nat}{el:TypeId}{xs:List (List AV)}{r r':List Row}(hp:C1 xs)(hl:FR b D r r'):FR b D (⟨g,el,size,xs⟩::r) (⟨g,el,size,xs⟩::r'):=.deep hp.any hl
theorem FR.spec {b:Nat}{D:List (List AV)}{l l':List Row}(h:FR b D l l'):l.map (EX b D)=l':=by
 induction h with
 | nil=>rfl
 | deep hp _ ih=>
  simp only[SD,ih,EX];congr 2;refine (R8 λx hx=>?_).trans (Sn _);exact (R8 λc hc=>MD (hp x hx c hc)).trans (Sn _)
 | raw hc _ ih=>simp only[SD,ih,EX,TB,hc]
theorem Fm {k n id b g size:Nat}{e:Nat->AV}{st st':List Row}{el:TypeId}{D:List (List AV)}{L:List (Nat×AV)}(T4:st[id]?=some ⟨g,el,size,[[.dv b 0 D]]⟩)(WJ:k<=id)(h:ME (λt=>Pv b D (e t)) L)(UL:FR b D (st.set id ⟨g+1,el,size,[]⟩) st'):Wk k ⟨n,e,st⟩ ⟨n,AX L,st'⟩:=by
 refine Wk.trans (λF os a w hr=>?_) (AR h);obtain⟨o,ho,hor,hbn,V0,Xg,hM⟩:=LJ hr T4;have T6:=hr.rows id o ho;have VY:=(Rq.1 ho).1;have dG:os.map Own.row=st:=hr.st
 let o1:Own:=⟨{ o.row with gen:=o.row.gen+1,xs:=[] },none,0,Cl⟩
 let so:Own->Own:=λq=>{ q with row:=EX b D q.row }
 let os':List Own:=(os.map so).set id o1
 have T9:∀(i:Nat) (oi:Own),os'[i]?=some oi->(i≠id/\∃Xe,os[i]?=some Xe/\oi=so Xe)∨(i=id/\oi=o1):=λi oi hi=>by
  by_cases e:i=id
  ·subst e;rw[Rw (by simpa using VY),Rr]at hi;exact .inr ⟨rfl,hi.symm⟩
  ·rw[R2 (Sc e),Rs,Rv]at hi;obtain⟨Xe,h1,h2⟩:=hi;exact .inl ⟨e,Xe,h1,h2.symm⟩
 have Uh:Bz os os':=λi oi hi=>by
  by_cases e:i=id
  ·subst e;rw[ho]at hi;cases hi;exact⟨o1,Rw (by simpa using VY),by simp[o1],rfl,λq=>by simp[o1]at q⟩
  ·exact⟨so oi,by rw[R2 (Sc e),Rs,hi];rfl,R3 _,rfl,λ_=>⟨rfl,rfl,by simp[so,EX]⟩⟩
 let F':Nat->Prop:=λc=>F c∨c=b
 have T8:∀x v,AF F w os x v->AF F' w os' x v:=λx v h=>A8 (λ_ h=>.inl h) (λ_ _=>rfl) os _ Uh x v h;have h1:∀x v,AF F w os x v->AF F' w os' (Ft b D x) v:=λx v hv=>by
  cases x with
  | mp b'=>
   simp only[Ft];by_cases hb:b'=b
   ·rw[R1 hb];simp only[AF]at hv⊢;exact .inr ⟨b,by rw[hv,hb],.inr rfl,hM⟩
   ·rw[R0 hb];exact T8 _ _ hv
  | _=>exact T8 _ _ hv
 have hL:∀xs us,Ad F w os xs us->Ad F' w os' (xs.map (Ft b D)) us:=λxs us h=>
  BP (by simp[Ab h]) λi x u hx hu=>by
   simp only[Rs,Rv]at hx;obtain⟨y,hy,rfl⟩:=hx;obtain⟨u',e1,e2⟩:=Al h i y hy;rw[hu]at e1;cases e1;exact h1 _ _ e2
 have Ua:∀(i:Nat) (oi:Own),i≠id->os[i]?=some oi->¬ oi.owns b:=λi oi hi h hb=>hi (hr.inj i id oi o b h ho hb (.inr Xg));refine⟨F',os',⟨?_,λt=>?_,hr.size,λi oi hi=>?_,λi j oi oj c hi hj aT YJ=>?_,λc hc=>?_,hr.defers⟩,⟨rfl,rfl,rfl,R3 _,λ_ h=>.inl h,λ_ _=>rfl,λc _ h1 h2=>⟨rfl,λhc=>hc.elim h1 (λe=>h2 o (Ro ho) (.inr (e▸Xg))),λq hq fb=>?_⟩,λi oi hi bt=>Uh i oi bt⟩⟩
 ·rw[<- UL.spec];simp only[os',Sf,Sx];have e1:os.map (Own.row∘so)=st.map (EX b D):=by rw[<- dG,Sx];rfl
  rw[e1];congr 1;simp[o1,EX,hor]
 ·have:AF F w os (e t) (a.tmps.getD t undef):=hr.env t;show AF F' w os' (Pv b D (e t)) (a.tmps.getD t undef);generalize e t=x at this⊢;cases x with
  | agg cs=>simp only[Pv,AF]at this⊢;obtain⟨us,e,h⟩:=this;exact⟨us,e,hL _ _ h⟩
  | BB cs=>simp only[Pv,AF]at this⊢;obtain⟨us,e,h⟩:=this;exact⟨us,e,hL _ _ h⟩
  | _=>exact h1 _ _ this
 ·rcases T9 i oi hi with ⟨Yh,Xe,Xw,rfl⟩|⟨_,rfl⟩
  ·have Ut:=hr.rows i Xe Xw;have bw:=Ua i Xe Yh Xw;refine⟨Ut.pos,λx hx=>?_,λhn=>?_,λc hc=>?_,λc hc=>⟨λhF=>hF.elim (Ut.mo c hc).1 (λe=>bw (.inr (e▸hc))),(Ut.mo c hc).2⟩,Ut.deep.mapped (Ft b D) (λ_ _ _ _ h=>QD h) rfl rfl rfl rfl⟩
   ·simp only[so,EX,R9]at hx;obtain⟨y,hy,rfl⟩:=hx;obtain⟨q1,q2⟩:=Ut.lens y hy;refine⟨by simpa [so,EX] using q1,λc hc=>?_⟩;obtain⟨c0,VA,rfl⟩:=R9.1 hc;exact OD (q2 c0 VA)
   ·obtain⟨q1,q2⟩:=Ut.none hn;exact⟨by simpa [so,EX] using FV (Ft b D) (λ_ _=>rfl) q1,q2⟩
   ·obtain⟨e1,cur,e2,e3,e4,e5,e6⟩:=Ut.some c hc;refine⟨λhF=>hF.elim e1 (λe=>bw (.inl (e▸hc))),cur,e2,e3,by simpa [so,EX] using e4,e5,λi' x hx j c' Wg=>?_⟩;simp only[so,EX,Rs,Rv]at hx;obtain⟨y,hy,rfl⟩:=hx;simp only[Rs,Rv]at Wg;obtain⟨d,hd,rfl⟩:=Wg;obtain⟨u,f1,f2⟩:=e6 i' y hy j d hd;exact⟨u,f1,h1 _ _ f2⟩
  ·exact⟨T6.pos,by simp[o1],by simp[o1],by simp[o1],λc hc=>hc.elim,B3 (by simp[o1])⟩
 ·rcases T9 i oi hi with ⟨q1,Xe,q2,rfl⟩|⟨q1,rfl⟩<;>rcases T9 j oj hj with ⟨p1,dA,p2,rfl⟩|⟨p1,rfl⟩
  ·exact hr.inj i j Xe dA c q2 p2 aT YJ
  ·rcases YJ with h|h
   ·cases h
   ·exact h.elim
  ·rcases aT with h|h
   ·cases h
   ·exact h.elim
  ·omega
 ·rcases hc with hc|rfl
  ·exact hr.CL c hc
  ·exact (T6.mo _ Xg).2.1
 ·obtain⟨i,hi⟩:=Sz hq;rcases T9 i q hi with ⟨q1,Xe,q2,rfl⟩|⟨_,rfl⟩
  ·exact h2 Xe (Ro q2) fb
  ·rcases fb with h|h
   ·cases h
   ·exact h.elim
end Go.Abs
