import Derived.Test.YtfkncfjpobjbjaaSufC
set_option linter.all false
namespace Sh
def apart (i j:Int):Option Unit:=if i=j then none else some ()
end Sh
namespace Go.Abs
open Go
section
variable {F : Nat -> Prop} {os : List Own} {s : St} {a : Act} {w : World} {k : Nat}
variable {α β : Type} {l : List α} {enc : α -> List AV}
theorem OM {i:Int}{x:List AV}:(hole l enc i x).length=l.length:=by unfold hole;simp
section
variable {P : Program} {s : St} {x y : Operand} {t el : TypeId} {size bytes id g m : Nat} {zz : List AV} {n i : Int} {kk : IntKind} {u : α} {z : List AV}
theorem Pj (he:CJ P t=some ⟨el,size,bytes,zz⟩)(hx:s.ev x=.own id g m)(hy:s.ev y=.int kk n)(hr:s.st[id]?=some ⟨g,el,size,hole l enc i z⟩)(hm:m=l.length)(hg:Sh.get l n=some u):
  AQ P s (.indexAddr t x y) (.ptr id g n.toNat 0):=λK hk=>by
 show Dj P s.st t (s.ev x) (s.ev y) K;rw[hx,hy];subst hm;exact AL _ he ⟨(Sh.get_some hg).1,(Sh.get_some hg).2.2,AL _ hr ⟨rfl,rfl,by simpa [OM] using hk⟩⟩
end
end
end Go.Abs
namespace Sh
def BJ {β:Type}:List (Int×β)->Int->Option β
 | [],_=>none
 | (a,u)::r,k=>if k=a then some u else BJ r k
def BW {β:Type}:List (Int×β)->Int->β->List (Int×β)
 | [],k,v=>[(k,v)]
 | (a,u)::r,k,v=>if k=a then (k,v)::r else (a,u)::BW r k v
end Sh
namespace Go.Abs
open Go
def eM {β:Type}(ev:β->AV)(p:Int×β):List AV:=[i64 p.1,ev p.2]
theorem GH {β:Type}{ev:β->AV}(Vm :∀v,(Cd (ev v)).isSome=true)(k:Int):∀(m:List (Int×β)) (l:List MapEntry) (i:Nat),(m.map (eM ev)).map Jc=l.map (λx=>some (x.key,x.val))->
  match Sh.BJ m k with
  | none=>Instr.findNow (.int .i64) (.int .i64 k) l i=some none/\∀v,Sh.BW m k v=m++[(k,v)]
  | some u=>∃j e z,Instr.findNow (.int .i64) (.int .i64 k) l i=some (some (i+j,z))/\Cd (ev u)=some z/\l[j]?=some e/\e.key=.int .i64 k/\∀v,Sh.BW m k v=m.set j (k,v)
 | [],[],i,_=>⟨rfl,λ_=>rfl⟩
 | [],_::_,_,h=>by simp at h
 | _::_,[],_,h=>by simp at h
 | (a,u)::m,e::l,i,h=>by
  simp only[R9,Ty]at h;obtain⟨h1,h2⟩:=h;obtain⟨z,hz⟩:=TR.1 (Vm u);have hp:Jc (eM ev (a,u))=some (.int .i64 a,z):=by
   show (match Cd (i64 a),Cd (ev u) with|some a,some b=>some (a,b)|_,_=>none)=_;rw[hz];rfl
  rw[hp]at h1;simp only[Rn,Prod.mk.injEq]at h1;by_cases hk:k=a
  ·subst hk;simp only[Sh.BJ,Ry rfl];refine⟨0,e,z,?_,hz,rfl,h1.1.symm,λv=>by simp[Sh.BW]⟩;rw[h1.2];simp[Instr.findNow,<- h1.1,Instr.sameNow]
  ·have ih:=GH Vm k m l (i+1) h2;have hf:Instr.findNow (.int .i64) (.int .i64 k) (e::l) i=Instr.findNow (.int .i64) (.int .i64 k) l (i+1):=by
    have hb:(k==a)=false:=by simpa using hk
    simp[Instr.findNow,<- h1.1,Instr.sameNow,hb]
   simp only[Sh.BJ,Rx hk];split<;>rename_i hg<;>rw[hg]at ih
   ·exact⟨by rw[hf];exact ih.1,λv=>by simp[Sh.BW,Rx hk,ih.2 v]⟩
   ·obtain⟨j,e',z',q1,q2,q3,q4,q5⟩:=ih;exact⟨j+1,e',z',by rw[hf,q1];congr 3;omega,q2,by simpa using q3,q4,λv=>by simp[Sh.BW,Rx hk,q5 v]⟩
def OI {β:Type}(ev:β->AV)(z0:β):Bool->Option β->AV
 | true,x=>.BK [ev (x.getD z0),.bool x.isSome]
 | false,x=>ev (x.getD z0)
theorem Lf {β:Type}(ev:β->AV)(z0:β)(VM:Bool)(x:Option β):OI ev z0 VM x=if VM then .BK [ev (x.getD z0),.bool x.isSome] else ev (x.getD z0):=by cases VM<;>rfl
def FF (P:Program)(T:TypeId):Option AV:=
 match P.underlying T with
 | some (.map kt et)=>match P.underlying kt with
  | some (.int .i64)=>match P.info? et with
   | some i=>match i.zero with
    | some (.int k n)=>some (.int k n)
    | some (.bool b)=>some (.bool b)
    | _=>none
   | none=>none
  | _=>none
 | _=>none
theorem GB {P:Program}{T:TypeId}{z:AV}(h:FF P T=some z):∃kt et zv,P.underlying T=some (.map kt et)/\P.underlying kt=some (.int .i64)/\Cd z=some zv/\∀w,(zeroValue et).run P w=.ok zv w:=by
 unfold FF at h;split at h<;>try (cases h;done)
 rename_i kt et hT;split at h<;>try (cases h;done)
 rename_i hk;split at h<;>try (cases h;done)
 rename_i i hi;split at h<;>try (cases h;done)
 ·rename_i k n hz;cases h;exact⟨kt,et,_,hT,hk,rfl,λw=>by simp[zeroValue,typeInfo,hi,hz,Result.andThen]⟩
 ·rename_i b hz;cases h;exact⟨kt,et,_,hT,hk,rfl,λw=>by simp[zeroValue,typeInfo,hi,hz,Result.andThen]⟩
section
variable {P : Program} {k : Nat} {ops : Array Oper} {Q : Exit -> St -> Prop} {ds : List (Option Tmp)} {r : List Oper} {n : Nat} {e : Nat -> AV} {st : List Row} {T ty : TypeId} {ps : String} {ed : Array Edge} {t : Tmp} {x y z : Operand} {β : Type} {ev : β -> AV}
theorem PK (hk :∀b,AO P k ops Q (ds++[some t]) r ⟨n,CD e t (.mp b),st++[⟨0,T,1,[[.dv b 0 []]]⟩]⟩):AO P k ops Q ds (⟨some t,.makeMap T none,ty,ps,ed,none⟩::r) ⟨n,e,st⟩:=by
 refine P7 (C:=λst' v=>∃b,st'=st++[⟨0,T,1,[[.dv b 0 []]]⟩]/\v=.mp b) rfl (λF os a w hr=>?_) (λst' v ⟨b,h1,h2⟩=>by subst h1;subst h2;exact hk b);have T8:os.map Own.row=st:=hr.st
 let o:Own:=⟨⟨0,T,1,[[.dv w.heap.size 0 []]]⟩,none,0,λb=>b=w.heap.size⟩
 have T5:∀(i:Nat) (oi:Own),(os++[o])[i]?=some oi->os[i]?=some oi∨(i=os.length/\oi=o):=λi oi hi=>by
  rcases SW i os.length with h|h|h
  ·rw[Rt h]at hi;exact .inl hi
  ·subst h;simp at hi;exact .inr ⟨rfl,hi.symm⟩
  ·rw[Rv (by omega),SE (by simp;omega)]at hi;cases hi
 have T9:∀(i:Nat) (oi:Own) g,os[i]?=some oi->oi.owns g->g<w.heap.size:=λi oi g hi hg=>(hr.rows i oi hi).lt hg;have Wc:∀g,o.owns g->g=w.heap.size:=λg hg=>by
  simpa [Own.owns,o] using hg
 have h:=hr.JI (k:=k) (Dx.alloc w (.map #[] 0) none) (by simp) (os':=os++[o]) (Bt.append os [o]) (λi oi hi=>by
   rcases T5 i oi hi with h|⟨_,rfl⟩
   ·exact .inl ⟨h,by simp⟩
   ·refine .inr ⟨Nat.one_pos,by simp[o,AV.kept],λ_=>⟨.inr ⟨_,_,rfl⟩,rfl⟩,by simp[o],λg hg=>?_,⟨λx b s D _ hx hc=>?_,λ_ _ _=>False,λ_ _ _ h=>h.elim,λ_ _ _ _ _ h=>h.elim,λb hb=>by cases hb⟩⟩
    ·have hG:g=w.heap.size:=hg;subst hG;exact⟨λhF=>absurd (hr.CL _ hF) (Td _),by simp,by simp[o]⟩
    ·simp only[o,R2,Rn]at hx;subst hx;simp only[R2,Rn,AV.dv.injEq]at hc;obtain⟨rfl,rfl,rfl⟩:=hc;exact⟨rfl,#[],0,Tj w _,rfl⟩)
  (λi j oi oj g hi hj WH WI=>by
   rcases T5 i oi hi with h|⟨h,rfl⟩<;>rcases T5 j oj hj with h'|⟨h',rfl⟩
   ·exact hr.inj i j oi oj g h h' WH WI
   ·exact absurd (T9 i oi g h WH) (by rw[Wc g WI];exact Td _)
   ·exact absurd (T9 j oj g h' WI) (by rw[Wc g WH];exact Td _)
   ·omega)
  (λo' UU g hg=>by
   rcases SI.1 UU with h|h
   ·exact .inr ⟨o',h,hg⟩
   ·simp only[R8]at h;subst h;exact .inl (by rw[Wc g hg];exact Rz _))
  (by simp)
 refine⟨_,_,⟨w.heap.size,rfl,rfl⟩,.map (some w.heap.size),w.alloc (.map #[] 0),F,os++[o],?_,?_,by simp[AF],h.2.1⟩
 ·simp[execOp,Instr.makeMap,Result.andThen]
 ·have h1:=h.1;simp only[Se,R9,S7,T8]at h1;exact h1
theorem LJ {F:Nat->Prop}{os:List Own}{s:St}{a:Act}{w:World}(hr:Rel F os s a w){id g size b:Nat}{el:TypeId}{D:List (List AV)}(T0:s.st[id]?=some ⟨g,el,size,[[.dv b 0 D]]⟩):
  ∃o,os[id]?=some o/\o.row=⟨g,el,size,[[.dv b 0 D]]⟩/\o.BV=none/\o.cap=0/\o.more b/\GC w b D:=by
 obtain⟨o,ho,h⟩:=hr.row T0;have T2:=hr.rows id o ho;have hx:o.row.xs[0]?=some [.dv b 0 D]:=by rw[h];rfl
 have hn:o.BV=none:=by
  cases hb:o.BV with
  | none=>rfl
  | some bb=>
   obtain⟨_,cur,T7,_⟩:=T2.some bb hb;obtain⟨-,D',_,_,d3⟩:=T2.deep;obtain⟨u,_,hu⟩:=d3 bb hb cur _ _ T7 0 _ 0 b 0 D hx rfl;simp[A7]at hu
 obtain⟨m1,m2⟩:=T2.deep.1 _ b 0 D hn hx rfl;exact⟨o,ho,h,hn,(T2.none hn).2,m1,m2⟩
theorem Nx {C:List Row->AV->Prop}{op:Op}{d:Option Tmp}{gd:Option (Nat×Bool)}(hg:GO ds gd e)(h :∀F os a w,Rel F os ⟨n,e,st⟩ a w->∃st' v,C st' v/\∃z w' F' os',(execOp a.eval ⟨d,op,ty,ps,ed,gd⟩).run P w=.ok (.value z) w'/\Rel F' os' ⟨n,e,st'⟩ a w'/\AF F' w' os' v z/\Ext F os w F' os' w' k)
  (hk :∀st' v,C st' v->AO P k ops Q (ds++[d]) r (St.put ⟨n,e,st'⟩ d v)):AO P k ops Q ds (⟨d,op,ty,ps,ed,gd⟩::r) ⟨n,e,st⟩:=by
 intro hl Vf Uf F os a w hr Q' hQ;have ho:ops[ds.length]?=some ⟨d,op,ty,ps,ed,gd⟩:=by have:=hl 0;simpa using this.symm
 have Ym:Bn n d=true:=Uf _ (by have:=Rk (l:=ops.toList) (i:=ds.length) (by simpa using ho);exact this);have ZC:∀d∈ds,Bn n d=true:=λd hd=>by
  obtain⟨j,hj⟩:=R0.1 hd;have h1:=Vf j d hj;cases hoj:ops[j]? with
  | none=>rw[hoj]at h1;cases h1
  | some oj=>
   rw[hoj]at h1;simp only[SC,Rn]at h1;subst h1;exact Uf oj (by have:=Rk (l:=ops.toList) (i:=j) (by simpa using hoj);exact this)
 have Xz :∀(j:Nat),r[j]?=ops[(ds++[d]).length+j]?:=λj=>by
  have:=hl (j+1);simp only[SG]at this;rw[this];congr 1;simp;omega
 have V1 :∀(j:Nat) d',(ds++[d])[j]?=some d'->(ops[j]?).map (·.dst)=some d':=λj d' hj=>by
  rcases SW j ds.length with h1|h1|h1
  ·rw[Rt h1]at hj;exact Vf j d' hj
  ·subst h1;rw[Dv,Rn]at hj;rw[ho];simp[hj]
  ·rw[SE (by simp;omega)]at hj;cases hj
 unfold wpList;rcases HC hr Vf ZC (GO.guard (A:=True) (B:=False) hg Rq) with ⟨hw,_⟩|⟨_,h1⟩
 ·rw[Ry hw];obtain⟨st',v,hC,z,w',F',os',h1,h2,h3,h4⟩:=h F os a w hr;refine .inl ?_;unfold Oper.wp;rw[h1];simp only[Oper.upon];refine hk st' v hC Xz V1 (by cases d<;>exact Uf) F' os' _ w' (h2.put Ym h3) Q' λ_ _ _ hp=>hQ _ _ _ (hp.trans h4)
 ·exact h1.elim
theorem Pk {C:List Row->Prop}{op:Op}{gd:Option (Nat×Bool)}(hg:GO ds gd e)(h :∀F os a w,Rel F os ⟨n,e,st⟩ a w->∃st',C st'/\∃w' F' os',(execOp a.eval ⟨none,op,ty,ps,ed,gd⟩).run P w=.ok .skip w'/\Rel F' os' ⟨n,e,st'⟩ a w'/\Ext F os w F' os' w' k)
  (hk :∀st',C st'->AO P k ops Q (ds++[none]) r ⟨n,e,st'⟩):AO P k ops Q ds (⟨none,op,ty,ps,ed,gd⟩::r) ⟨n,e,st⟩:=by
 intro hl Vf Uf F os a w hr Q' hQ;have ho:ops[ds.length]?=some ⟨none,op,ty,ps,ed,gd⟩:=by have:=hl 0;simpa using this.symm
 have ZC:∀d∈ds,Bn n d=true:=λd hd=>by
  obtain⟨j,hj⟩:=R0.1 hd;have h1:=Vf j d hj;cases hoj:ops[j]? with
  | none=>rw[hoj]at h1;cases h1
  | some oj=>
   rw[hoj]at h1;simp only[SC,Rn]at h1;subst h1;exact Uf oj (by have:=Rk (l:=ops.toList) (i:=j) (by simpa using hoj);exact this)
 have Xz :∀(j:Nat),r[j]?=ops[(ds++[(none:Option Tmp)]).length+j]?:=λj=>by
  have:=hl (j+1);simp only[SG]at this;rw[this];congr 1;simp;omega
 have V1 :∀(j:Nat) d',(ds++[(none:Option Tmp)])[j]?=some d'->(ops[j]?).map (·.dst)=some d':=λj d' hj=>by
  rcases SW j ds.length with h1|h1|h1
  ·rw[Rt h1]at hj;exact Vf j d' hj
  ·subst h1;rw[Dv,Rn]at hj;rw[ho];simp[hj]
  ·rw[SE (by simp;omega)]at hj;cases hj
 unfold wpList;rcases HC hr Vf ZC (GO.guard (A:=True) (B:=False) hg Rq) with ⟨hw,_⟩|⟨_,h1⟩
 ·rw[Ry hw];obtain⟨st',hC,w',F',os',h1,h2,h4⟩:=h F os a w hr;refine .inl ?_;unfold Oper.wp;rw[h1];simp only[Oper.upon];refine hk st' hC Xz V1 Uf F' os' _ w' h2 Q' λ_ _ _ hp=>hQ _ _ _ (hp.trans h4)
 ·exact h1.elim
theorem Oo (Vm :∀v,(Cd (ev v)).isSome=true)(v:β){F:Nat->Prop}{w:World}{os:List Own}{u:Value}(h:Cd (ev v)=some u):AF F w os (ev v) u:=by
 cases hx:ev v<;>rw[hx]at h<;>simp only[Cd]at h<;>cases h<;>simp[AF]
theorem KR {F:Nat->Prop}{w:World}{os:List Own}{b:Nat}{m:List (Int×β)}{kk:Int}{zz:AV}{z0:β}(hT:FF P T=some zz)(Vm :∀v,(Cd (ev v)).isSome=true)(hz:ev z0=zz)(hM:GC w b (m.map (eM ev)))(VM:Bool):
  ∃u,(Instr.lookup T (.map (some b)) (.int .i64 kk) VM).run P w=.ok u w/\AF F w os (if VM then .BK [ev ((Sh.BJ m kk).getD z0),.bool (Sh.BJ m kk).isSome] else ev ((Sh.BJ m kk).getD z0)) u:=by
 obtain⟨kt,et,zv,hT1,hT2,hT3,hT4⟩:=GB hT;obtain⟨es,clock,hb,hes⟩:=hM;have hf:=GH Vm kk m es.toList 0 hes;have X7:∀q,(Instr.checkKey q 10000 kt (.int .i64 kk)).run P w=.ok () w:=λq=>Tf hT2 (d:=.int .i64) (by simp[MapKept.IsKey]) q 9999;cases hg:Sh.BJ m kk with
 | none=>
  rw[hg]at hf;refine⟨if VM then .tuple #[zv,.bool false] else zv,?_,?_⟩
  ·simp only[Instr.lookup,SQ,SJ hT1,TC hb,S9 hT2 hf.1,X7,hT4,SD,SU]
  ·have h0:AF F w os (ev z0) zv:=Oo Vm z0 (by rw[hz];exact hT3);cases VM
   ·simpa using h0
   ·simp only[Sm,Tv,Option.isSome_none,AF];exact⟨[zv,.bool false],rfl,by simp[Ad,AF,h0]⟩
 | some u=>
  rw[hg]at hf;obtain⟨j,e',z',q1,q2,_,_,_⟩:=hf;refine⟨if VM then .tuple #[z',.bool true] else z',?_,?_⟩
  ·simp only[Instr.lookup,SQ,SJ hT1,TC hb,S9 hT2 q1,X7,SD,SU]
  ·have h0:AF F w os (ev u) z':=Oo Vm u q2;cases VM
   ·simpa using h0
   ·simp only[Sm,Sp,Option.isSome_some,AF];exact⟨[z',.bool true],rfl,by simp[Ad,AF,h0]⟩
section
variable {m : List (Int × β)} {kk : Int} {zz : AV} {z0 : β} {gd : Option (Nat × Bool)} {b id g size : Nat} {el : TypeId} {st' : List Row}
theorem look_nil {F:Nat->Prop}{w:World}{os:List Own}{kk:Int}{zz:AV}{z0:β}(hT:FF P T=some zz)(Vm :∀v,(Cd (ev v)).isSome=true)(hz:ev z0=zz)(VM:Bool):
  ∃u,(Instr.lookup T (.map none) (.int .i64 kk) VM).run P w=.ok u w/\AF F w os (if VM then .BK [ev ((Sh.BJ ([]:List (Int×β)) kk).getD z0),.bool (Sh.BJ ([]:List (Int×β)) kk).isSome] else ev ((Sh.BJ ([]:List (Int×β)) kk).getD z0)) u:=by
 obtain⟨kt,et,zv,hT1,hT2,hT3,hT4⟩:=GB hT;have X7:∀q,(Instr.checkKey q 10000 kt (.int .i64 kk)).run P w=.ok () w:=λq=>Tf hT2 (d:=.int .i64) (by simp[MapKept.IsKey]) q 9999;have hf:Instr.findNow (.int .i64) (.int .i64 kk) [] 0=some none:=rfl;have h0:AF F w os (ev z0) zv:=Oo Vm z0 (by rw[hz];exact hT3);refine⟨if VM then .tuple #[zv,.bool false] else zv,?_,?_⟩
 ·simp only[Instr.lookup,SQ,SJ hT1,S9 hT2 hf,X7,hT4,SD,SU]
 ·cases VM
  ·simpa [Sh.BJ] using h0
  ·simp only[Sm,Sh.BJ,Tv,Option.isSome_none,AF];exact⟨[zv,.bool false],rfl,by simp[Ad,AF,h0]⟩
theorem Ng (VM:Bool)(hg:GO ds gd e)(hT:FF P T=some zz)(Vm :∀v,(Cd (ev v)).isSome=true)(hz:ev z0=zz)(hx:St.ev ⟨n,e,st⟩ x=.mp b)(hr:st[id]?=some ⟨g,el,size,[[.dv b 0 (m.map (eM ev))]]⟩)(hy:St.ev ⟨n,e,st⟩ y=i64 kk)
  (hk:AO P k ops Q (ds++[some t]) r ⟨n,CD e t (OI ev z0 VM (Sh.BJ m kk)),st⟩):AO P k ops Q ds (⟨some t,.lookup T x y VM,ty,ps,ed,gd⟩::r) ⟨n,e,st⟩:=by
 refine Nx (C:=λst' v=>st'=st/\v=OI ev z0 VM (Sh.BJ m kk)) hg (λF os a w Ug=>?_) (λst' v ⟨h1,h2⟩=>by subst h1;subst h2;exact hk);obtain⟨o,_,_,_,_,_,hM⟩:=LJ Ug hr;obtain⟨u,h1,h2⟩:=KR (F:=F) (os:=os) (kk:=kk) hT Vm hz hM VM;rw[<- Lf]at h2;have e1:=Ug.ev x;rw[hx]at e1;simp only[AF]at e1;have e2:=Ug.ev y;rw[hy]at e2;simp only[AF]at e2;refine⟨st,_,⟨rfl,rfl⟩,u,w,F,os,?_,Ug,h2,BM _ _ _ _⟩;simp only[execOp,SQ,e1,e2,h1,SD,SU]
theorem Nr (VM:Bool)(hg:GO ds gd e)(hT:FF P T=some zz)(Vm :∀v,(Cd (ev v)).isSome=true)(hz:ev z0=zz)(hx:St.ev ⟨n,e,st⟩ x=.mv (m.map (eM ev)))(hy:St.ev ⟨n,e,st⟩ y=i64 kk)
  (hk:AO P k ops Q (ds++[some t]) r ⟨n,CD e t (OI ev z0 VM (Sh.BJ m kk)),st⟩):AO P k ops Q ds (⟨some t,.lookup T x y VM,ty,ps,ed,gd⟩::r) ⟨n,e,st⟩:=by
 refine Nx (C:=λst' v=>st'=st/\v=OI ev z0 VM (Sh.BJ m kk)) hg (λF os a w Ug=>?_) (λst' v ⟨h1,h2⟩=>by subst h1;subst h2;exact hk);have e1:=Ug.ev x;rw[hx]at e1;simp only[AF]at e1;obtain⟨u,h1,h2⟩ :∃u,(Instr.lookup T (a.eval x) (.int .i64 kk) VM).run P w=.ok u w/\AF F w os (OI ev z0 VM (Sh.BJ m kk)) u:=by
  rcases e1 with ⟨hD,e1⟩|⟨bb,e1,_,hM⟩
  ·rw[e1];obtain rfl:m=[]:=by simpa using hD
   rw[Lf];exact look_nil hT Vm hz VM
  ·rw[e1,Lf];exact KR (F:=F) (os:=os) (kk:=kk) hT Vm hz hM VM
 have e2:=Ug.ev y;rw[hy]at e2;simp only[AF]at e2;refine⟨st,_,⟨rfl,rfl⟩,u,w,F,os,?_,Ug,h2,BM _ _ _ _⟩;simp only[execOp,SQ,e2,h1,SD,SU]
theorem OX {w:World}{v:β}{u:Value}(hT:FF P T=some zz)(Vm :∀v,(Cd (ev v)).isSome=true)(hu:Cd (ev v)=some u)(hM:GC w b (m.map (eM ev))):
  ∃es clock,(Instr.mapUpdate T (.map (some b)) (.int .i64 kk) u).run P w=.ok () { w with heap:=w.heap.setIfInBounds b (.map es clock) }/\b<w.heap.size/\((Sh.BW m kk v).map (eM ev)).map Jc=es.toList.map λx=>some (x.key,x.val):=by
 obtain⟨kt,et,zv,hT1,hT2,hT3,hT4⟩:=GB hT;obtain⟨es,clock,hb,hes⟩:=hM;have T9:b<w.heap.size:=(SZ.1 hb).1;have hf:=GH Vm kk m es.toList 0 hes;have hk:MapKept.IsKey (.int .i64) (.int .i64 kk):=by simp[MapKept.IsKey]
 have X7:∀q,(Instr.checkKey q 10000 kt (.int .i64 kk)).run P w=.ok () w:=λq=>Tf hT2 hk q 9999;have hp:Jc (eM ev (kk,v))=some (.int .i64 kk,u):=by
  show (match Cd (i64 kk),Cd (ev v) with|some a,some b=>some (a,b)|_,_=>none)=_;rw[hu];rfl
 cases hg:Sh.BJ m kk with
 | none=>
  rw[hg]at hf;refine⟨es.push { key:=.int .i64 kk,val:=u,born:=clock },clock+1,?_,T9,?_⟩
  ·simp only[Instr.mapUpdate,SQ,SJ hT1,TC hb,S9 hT2 hf.1,X7,MapKept.run_setObj_map _ hb,SD]
  ·rw[hf.2,Se,Se,hes];simp[hp]
 | some u0=>
  rw[hg]at hf;obtain⟨j,e',z',q1,q2,q3,q4,q5⟩:=hf;have hj:es[j]?=some e':=by simpa using q3
  refine⟨es.modify j λe=>{ e with key:=.int .i64 kk,val:=u },clock,?_,T9,?_⟩
  ·simp[Instr.mapUpdate,SJ hT1,TC hb,X7,S9 hT2 q1,hj,q4,MapKept.run_keyThatStays hk,MapKept.run_setObj_map _ hb,Result.andThen]
  ·rw[q5,Sb,Sb,hes,hp];have Vl:j<es.size:=(SZ.1 hj).1;refine TV λi=>?_;rw[Tk];simp only[Ro,TE,Array.getElem?_modify,SB,Sy];by_cases hi:j=i
   ·subst hi;simp[Vl,hj]
   ·simp[hi]
theorem Oy {v:β}(hg:GO ds gd e)(hT:FF P T=some zz)(Vm :∀v,(Cd (ev v)).isSome=true)(hx:St.ev ⟨n,e,st⟩ x=.mp b)(hr:st[id]?=some ⟨g,el,size,[[.dv b 0 (m.map (eM ev))]]⟩)(hy:St.ev ⟨n,e,st⟩ y=i64 kk)(hz:St.ev ⟨n,e,st⟩ z=ev v)
  (T8:st.set id ⟨g,el,size,[[.dv b 0 ((Sh.BW m kk v).map (eM ev))]]⟩=st') (hk:AO P k ops Q (ds++[none]) r ⟨n,e,st'⟩):AO P k ops Q ds (⟨none,.mapUpdate T x y z,ty,ps,ed,gd⟩::r) ⟨n,e,st⟩:=by
 subst T8;refine Pk (C:=λst'=>st'=st.set id ⟨g,el,size,[[.dv b 0 ((Sh.BW m kk v).map (eM ev))]]⟩) hg (λF os a w Ug=>?_) (λst' h1=>by subst h1;exact hk);obtain⟨o,ho,hor,hbn,Vw,XZ,hM⟩:=LJ Ug hr;have T2:=Ug.rows id o ho;have VR:=(Rm.1 ho).1;have e1:=Ug.ev x;rw[hx]at e1;simp only[AF]at e1;have e2:=Ug.ev y;rw[hy]at e2;simp only[AF]at e2;obtain⟨u,hu⟩:=TR.1 (Vm v);have e3:=Ug.ev z;rw[hz]at e3;have e3:a.eval z=u:=by
  cases hx:ev v<;>rw[hx]at hu e3<;>simp only[Cd]at hu<;>cases hu<;>simpa [AF] using e3
 obtain⟨es,clock,h1,T9,h2⟩:=OX (kk:=kk) hT Vm hu hM
 let w':World:={ w with heap:=w.heap.setIfInBounds b (.map es clock) }
 let o':Own:={ o with row:={ o.row with xs:=[[.dv b 0 ((Sh.BW m kk v).map (eM ev))]] } }
 have YY:¬ F b:=(T2.mo b XZ).1;have hH:Dx w w' (some b):=⟨rfl,rfl,rfl,by simp[w'],λi _ hi=>by simp[w',Array.getElem?_setIfInBounds,show ¬ b=i from λh=>hi (by rw[h])]⟩
 have cd:w'.heap[b]?=some (.map es clock):=by simp[w',T9]
 have T5:∀(i:Nat) (oi:Own),(os.set id o')[i]?=some oi->(i≠id/\os[i]?=some oi)∨(i=id/\oi=o'):=λi oi hi=>by
  by_cases e:i=id
  ·subst e;rw[Rs VR,Rn]at hi;exact .inr ⟨rfl,hi.symm⟩
  ·rw[Rw (SY e)]at hi;exact .inl ⟨e,hi⟩
 have h:=Ug.JI (k:=k) hH (λi hi=>by cases hi;exact YY) (os':=os.set id o') (Bt.set ho (Rz _) rfl λ_=>⟨rfl,rfl,by simp[o',hor]⟩) (λi oi hi=>by
   rcases T5 i oi hi with ⟨UW,h⟩|⟨_,rfl⟩
   ·exact .inl ⟨h,λc hc e=>by cases e;exact UW (Ug.inj i id oi o b h ho hc (.inr XZ))⟩
   ·refine .inr ⟨T2.pos,λy hy=>?_,λ_=>⟨.inr ⟨_,_,rfl⟩,Vw⟩,λc hc=>(by rw[show o.BV=some c from hc]at hbn;cases hbn),λc hc=>⟨(T2.mo c hc).1,by simpa [w'] using (T2.mo c hc).2.1,(T2.mo c hc).2.2⟩,⟨λx b' s D _ hx hc=>?_,λ_ _ _=>False,λ_ _ _ h=>h.elim,λ_ _ _ _ _ h=>h.elim,λc hc=>(by rw[show o.BV=some c from hc]at hbn;cases hbn)⟩⟩
    ·simp only[o',R8]at hy;subst hy;have:=(T2.lens [.dv b 0 (m.map (eM ev))] (by rw[hor];simp)).1;exact⟨by simpa [o'] using this,by simp[AV.kept]⟩
    ·simp only[o',R2,Rn]at hx;subst hx;simp only[R2,Rn,AV.dv.injEq]at hc;obtain⟨rfl,rfl,rfl⟩:=hc;exact⟨XZ,es,clock,cd,h2⟩)
  (λi j oi oj c hi hj aL YD=>by
   rcases T5 i oi hi with ⟨q,h⟩|⟨rfl,rfl⟩<;>rcases T5 j oj hj with ⟨q',h'⟩|⟨h',rfl⟩
   ·exact Ug.inj i j oi oj c h h' aL YD
   ·subst h';exact Ug.inj i j oi o c h ho aL YD
   ·exact Ug.inj i j o oj c ho h' aL YD
   ·exact h'.symm)
  (λo1 ar c hc=>by
   obtain⟨i,hi⟩:=Ss ar;rcases T5 i o1 hi with ⟨_,h⟩|⟨_,rfl⟩
   ·exact .inr ⟨o1,Rk h,hc⟩
   ·exact .inr ⟨o,Rk ho,hc⟩)
  (λc hc=>by cases hc;exact⟨o,Rk ho,.inr XZ⟩)
 refine⟨_,rfl,w',F,os.set id o',?_,?_,h.2.1⟩
 ·simp only[execOp,SQ,e1,e2,e3,h1,SD,SU];first|done|rfl
 ·have h1:=h.1;have T8:os.map Own.row=st:=Ug.st;have e0:o'.row=⟨g,el,size,[[.dv b 0 ((Sh.BW m kk v).map (eM ev))]]⟩:=by simp[o',hor]
  rw[Sb,T8,e0]at h1;exact h1
end
end
end Go.Abs
namespace Go.Abs
open Go
theorem HO {b:Nat}{D:List (List AV)}:Au [[.dv b 0 D]]:=λx hx c hc=>by
 simp only[R8]at hx;subst hx;simp only[R8]at hc;subst hc;rfl
def Fs (b:Nat)(D:List (List AV)):AV->AV
 | .mp b'=>if b'=b then .mv D else .mp b'
 | v=>v
def Pf (b:Nat)(D:List (List AV)):AV->AV
 | .agg cs=>.agg (cs.map (Fs b D))
 | .BK cs=>.BK (cs.map (Fs b D))
 | v=>Fs b D v
def EP (b:Nat)(D:List (List AV))(row:Row):Row:={ row with xs:=row.xs.map (·.map (Fs b D)) }
theorem Pv {b:Nat}{D:List (List AV)}{c:AV}{x s:Nat}{ys:List (List AV)}(h:Fs b D c=.dv x s ys):c=.dv x s ys:=by
 cases c<;>simp only[Fs]at h<;>first|exact h|(split at h<;>cases h)
theorem Ny {b:Nat}{D:List (List AV)}{c:AV}(h:c.kept=true):(Fs b D c).kept=true:=by
 cases c<;>simp only[Fs]<;>first|exact h|(split<;>rfl)
theorem L4 {b:Nat}{D:List (List AV)}{c:AV}(h:BP c=true):Fs b D c=c:=by
 cases c<;>simp[BP,simple]at h<;>rfl
inductive FR (b:Nat) (D:List (List AV)):List Row->List Row->Prop
 | nil:FR b D [] []
 | deep {g size:Nat} {el:TypeId} {xs:List (List AV)} {r r':List Row} (hp:Au xs) (hl:FR b D r r'):FR b D (⟨g,el,size,xs⟩::r) (⟨g,el,size,xs⟩::r')
 | raw {g size:Nat} {el:TypeId} {cs cs':List AV} {r r':List Row} (hc:cs.map (Fs b D)=cs') (hl:FR b D r r'):FR b D (⟨g,el,size,[cs]⟩::r) (⟨g,el,size,[cs']⟩::r')
theorem FR.pure {b:Nat}{D:List (List AV)}{g size:Nat}{el:TypeId}{xs:List (List AV)}{r r':List Row}(hp:Cu xs)(hl:FR b D r r'):FR b D (⟨g,el,size,xs⟩::r) (⟨g,el,size,xs⟩::r'):=.deep hp.any hl
theorem FR.spec {b:Nat}{D:List (List AV)}{l l':List Row}(h:FR b D l l'):l.map (EP b D)=l':=by
 induction h with
 | nil=>rfl
 | deep hp _ ih=>
  simp only[R9,ih,EP];congr 2;refine (R4 λx hx=>?_).trans (Sj _);exact (R4 λc hc=>L4 (hp x hx c hc)).trans (Sj _)
 | raw hc _ ih=>simp only[R9,ih,EP,S7,hc]
theorem Fu {k n id b g size:Nat}{e:Nat->AV}{st st':List Row}{el:TypeId}{D:List (List AV)}{L:List (Nat×AV)}(T0:st[id]?=some ⟨g,el,size,[[.dv b 0 D]]⟩)(WE:k<=id)(h:ME (λt=>Pf b D (e t)) L)(T8:FR b D (st.set id ⟨g+1,el,size,[]⟩) st'):Wk k ⟨n,e,st⟩ ⟨n,AX L,st'⟩:=by
 refine Wk.trans (λF os a w hr=>?_) (AR h);obtain⟨o,ho,hor,hbn,Vw,XZ,hM⟩:=LJ hr T0;have T2:=hr.rows id o ho;have VR:=(Rm.1 ho).1;have cz:os.map Own.row=st:=hr.st
 let o1:Own:=⟨{ o.row with gen:=o.row.gen+1,xs:=[] },none,0,Cg⟩
 let so:Own->Own:=λq=>{ q with row:=EP b D q.row }
 let os':List Own:=(os.map so).set id o1
 have T5:∀(i:Nat) (oi:Own),os'[i]?=some oi->(i≠id/\∃XX,os[i]?=some XX/\oi=so XX)∨(i=id/\oi=o1):=λi oi hi=>by
  by_cases e:i=id
  ·subst e;rw[Rs (by simpa using VR),Rn]at hi;exact .inr ⟨rfl,hi.symm⟩
  ·rw[Rw (SY e),Ro,Rr]at hi;obtain⟨XX,h1,h2⟩:=hi;exact .inl ⟨e,XX,h1,h2.symm⟩
 have Ud:Bt os os':=λi oi hi=>by
  by_cases e:i=id
  ·subst e;rw[ho]at hi;cases hi;exact⟨o1,Rs (by simpa using VR),by simp[o1],rfl,λq=>by simp[o1]at q⟩
  ·exact⟨so oi,by rw[Rw (SY e),Ro,hi];rfl,Rz _,rfl,λ_=>⟨rfl,rfl,by simp[so,EP]⟩⟩
 let F':Nat->Prop:=λc=>F c∨c=b
 have T4:∀x v,AF F w os x v->AF F' w os' x v:=λx v h=>A5 (λ_ h=>.inl h) (λ_ _=>rfl) os _ Ud x v h;have h1:∀x v,AF F w os x v->AF F' w os' (Fs b D x) v:=λx v hv=>by
  cases x with
  | mp b'=>
   simp only[Fs];by_cases hb:b'=b
   ·rw[Ry hb];simp only[AF]at hv⊢;exact .inr ⟨b,by rw[hv,hb],.inr rfl,hM⟩
   ·rw[Rx hb];exact T4 _ _ hv
  | _=>exact T4 _ _ hv
 have hL:∀xs us,Ad F w os xs us->Ad F' w os' (xs.map (Fs b D)) us:=λxs us h=>
  BQ (by simp[Aa h]) λi x u hx hu=>by
   simp only[Ro,Rr]at hx;obtain⟨y,hy,rfl⟩:=hx;obtain⟨u',e1,e2⟩:=Aj h i y hy;rw[hu]at e1;cases e1;exact h1 _ _ e2
 have UW:∀(i:Nat) (oi:Own),i≠id->os[i]?=some oi->¬ oi.owns b:=λi oi hi h hb=>hi (hr.inj i id oi o b h ho hb (.inr XZ));refine⟨F',os',⟨?_,λt=>?_,hr.size,λi oi hi=>?_,λi j oi oj c hi hj aL YD=>?_,λc hc=>?_,hr.defers⟩,⟨rfl,rfl,rfl,Rz _,λ_ h=>.inl h,λ_ _=>rfl,λc _ h1 h2=>⟨rfl,λhc=>hc.elim h1 (λe=>h2 o (Rk ho) (.inr (e▸XZ))),λq hq fV=>?_⟩,λi oi hi bl=>Ud i oi bl⟩⟩
 ·rw[<- T8.spec];simp only[os',Sb,Sq];have e1:os.map (Own.row∘so)=st.map (EP b D):=by rw[<- cz,Sq];rfl
  rw[e1];congr 1;simp[o1,EP,hor]
 ·have:AF F w os (e t) (a.tmps.getD t undef):=hr.env t;show AF F' w os' (Pf b D (e t)) (a.tmps.getD t undef);generalize e t=x at this⊢;cases x with
  | agg cs=>simp only[Pf,AF]at this⊢;obtain⟨us,e,h⟩:=this;exact⟨us,e,hL _ _ h⟩
  | BK cs=>simp only[Pf,AF]at this⊢;obtain⟨us,e,h⟩:=this;exact⟨us,e,hL _ _ h⟩
  | _=>exact h1 _ _ this
 ·rcases T5 i oi hi with ⟨Yb,XX,Xr,rfl⟩|⟨_,rfl⟩
  ·have Up:=hr.rows i XX Xr;have bn:=UW i XX Yb Xr;refine⟨Up.pos,λx hx=>?_,λhn=>?_,λc hc=>?_,λc hc=>⟨λhF=>hF.elim (Up.mo c hc).1 (λe=>bn (.inr (e▸hc))),(Up.mo c hc).2⟩,Up.deep.mapped (Fs b D) (λ_ _ _ _ h=>Pv h) rfl rfl rfl rfl⟩
   ·simp only[so,EP,R7]at hx;obtain⟨y,hy,rfl⟩:=hx;obtain⟨q1,q2⟩:=Up.lens y hy;refine⟨by simpa [so,EP] using q1,λc hc=>?_⟩;obtain⟨c0,U3,rfl⟩:=R7.1 hc;exact Ny (q2 c0 U3)
   ·obtain⟨q1,q2⟩:=Up.none hn;exact⟨by simpa [so,EP] using FG (Fs b D) (λ_ _=>rfl) q1,q2⟩
   ·obtain⟨e1,cur,e2,e3,e4,e5,e6⟩:=Up.some c hc;refine⟨λhF=>hF.elim e1 (λe=>bn (.inl (e▸hc))),cur,e2,e3,by simpa [so,EP] using e4,e5,λi' x hx j c' WW=>?_⟩;simp only[so,EP,Ro,Rr]at hx;obtain⟨y,hy,rfl⟩:=hx;simp only[Ro,Rr]at WW;obtain⟨d,hd,rfl⟩:=WW;obtain⟨u,f1,f2⟩:=e6 i' y hy j d hd;exact⟨u,f1,h1 _ _ f2⟩
  ·exact⟨T2.pos,by simp[o1],by simp[o1],by simp[o1],λc hc=>hc.elim,B2 (by simp[o1])⟩
 ·rcases T5 i oi hi with ⟨q1,XX,q2,rfl⟩|⟨q1,rfl⟩<;>rcases T5 j oj hj with ⟨p1,cr,p2,rfl⟩|⟨p1,rfl⟩
  ·exact hr.inj i j XX cr c q2 p2 aL YD
  ·rcases YD with h|h
   ·cases h
   ·exact h.elim
  ·rcases aL with h|h
   ·cases h
   ·exact h.elim
  ·omega
 ·rcases hc with hc|rfl
  ·exact hr.CL c hc
  ·exact (T2.mo _ XZ).2.1
 ·obtain⟨i,hi⟩:=Ss hq;rcases T5 i q hi with ⟨q1,XX,q2,rfl⟩|⟨_,rfl⟩
  ·exact h2 XX (Rk q2) fV
  ·rcases fV with h|h
   ·cases h
   ·exact h.elim
end Go.Abs
