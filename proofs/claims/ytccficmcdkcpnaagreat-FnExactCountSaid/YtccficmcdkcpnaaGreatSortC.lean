import Derived.Test.YtccficmcdkcpnaaGreatGAbsZPToSSDefs
import Derived.Sort.OwnSortedInts
set_option linter.all false
namespace Go.Abs
open Go Go.Sort RC
theorem FN.pL {F:Nat->Prop}{o o':Own}{w w':World}{st:List Row}(hS:FN F [o] st w)(ht:Gt w w' o.Ea)(hs:o'.row.size=o.row.size)(hg:o.row.gen<=o'.row.gen)
  (h3:o'.row.gen=o.row.gen->o'.row.xs.length=o.row.xs.length) (hb:o'.Ea=o.Ea) (hc:o'.cap=o.cap) (hm:o'.more=o.more) (zp:MZ F w' [o'] o'):FN F [o'] [o'.row] w'/\Ext F [o] w F [o'] w' st.length:=by
 have h0:=hS.rows 0 o rfl;have hown:∀b,o'.owns b↔o.owns b:=λb=>by unfold Own.owns;rw[hb,hm]
 refine⟨⟨rfl,λi oi hi=>?_,λi j oi oj b hi hj _ _=>?_,λb hF=>vi (hS.GK b hF) ht.size⟩,⟨ht.sys,ht.tape,ht.output,ht.size,λ_ h=>h,λb hF=>ht.GK b (hS.GK b hF) (λe=>h0.nF (.inl e) hF),λb hlt hF hn=>⟨ht.GK b hlt (λe=>hn o (by simp) (.inl e)),hF,λq hq=>?_⟩,λi oi _ hi=>?_⟩⟩
 ·cases i with
  | zero=>simp only[vC,uO]at hi;subst hi;exact zp
  | succ i=>simp at hi
 ·have:i<1:=(uK.1 hi).1;have:j<1:=(uK.1 hj).1;omega
 ·simp only[vQ]at hq;subst hq;rw[hown];exact hn o (by simp)
 ·cases i with
  | zero=>
   simp only[vC,uO]at hi;subst hi;exact⟨o',rfl,hg,hs,λe=>⟨hb,hc,h3 e⟩⟩
  | succ i=>simp at hi
theorem Sy {F:Nat->Prop}{w:World}{os:List Own}{cur:Array Value}{l:List Int}(h :∀(i:Nat) x,(l.map eI)[i]?=some x->∀(j:Nat) c,x[j]?=some c->∃u,cur[i*1+j]?=some u/\Ae F w os c u):cur.toList.take l.length=l.map (Value.int .i64):=by
 apply xj;intro j;by_cases hj:j<l.length
 ·rw[List.getElem?_take_of_lt hj,wA,uP,uQ hj];obtain⟨u,h1,h2⟩:=h j (eI l[j]) (by rw[uP,uQ hj];rfl) 0 _ rfl;rw[yr,xN]at h1;simp only[Ae]at h2;rw[h1,h2];rfl
 ·rw[List.getElem?_take_eq_none (by omega),vf (by simp;omega)]
theorem Xt {F:Nat->Prop}{w:World}{os:List Own}{cur:Array Value}{l:List Int}(h:cur.toList.take l.length=l.map (Value.int .i64)):∀(i:Nat) x,(l.map eI)[i]?=some x->∀(j:Nat) c,x[j]?=some c->∃u,cur[i*1+j]?=some u/\Ae F w os c u:=by
 intro i x hx j c hc;rw[uP,uR]at hx;obtain⟨z,hz,rfl⟩:=hx;have hi:=(uK.1 hz).1;cases j with
 | zero=>
  have:c=i64 z:=by simpa [eI] using hc.symm
  subst this;have h1:=vI (λq=>q[i]?) h;simp only[List.getElem?_take_of_lt hi,wA,uP,hz,vY]at h1;exact⟨_,by rw[yr,xN];exact h1,by simp[Ae]⟩
 | succ j=>simp[eI]at hc
theorem iW {F:Nat->Prop}{w w':World}{o o':Own}{os os':List Own}{b:Nat}{l l':List Int}{cur cur':Array Value}(h0:MZ F w os o)(hb:o.Ea=some b)(hx:o.row.xs=l.map eI)(hs1:o.row.size=1)
  (ht:Gt w w' (some b)) (AAF:w.heap[b]?=some (.cells cur o.row.elem (0,0))) (hcur':w'.heap[b]?=some (.cells cur' o.row.elem (0,0))) (hsz:cur'.size=cur.size) (hle:l'.length<=l.length) (hl:cur'.toList.take l'.length=l'.map (Value.int .i64))
  (ho:o'=⟨{ o.row with gen:=o'.row.gen,xs:=l'.map eI },o.Ea,o.cap,o.more⟩):MZ F w' os' o':=by
 obtain⟨hF,c0,e1,e2,e3,e4,_⟩:=h0.some b hb;rw[AAF]at e1;obtain rfl:cur=c0:=by simpa using e1
 rw[hx,uZ]at e3;have hflat:∀x∈o'.row.xs,∀c∈x,c.leaf=true:=by
  rw[ho];intro x hx c hc;obtain⟨z,_,rfl⟩:=uw.1 hx;simp only[eI,vQ]at hc;subst hc;rfl
 refine⟨by rw[ho];exact h0.pos,λx hx=>⟨?_,λc hc=>DL (hflat x hx c hc)⟩,λe=>?_,λc hc=>?_,λc hc=>?_,Fz hflat⟩
 ·rw[ho]at hx⊢;obtain⟨z,_,rfl⟩:=uw.1 hx;simp[eI,hs1]
 ·rw[ho]at e;simp only at e;rw[hb]at e;cases e
 ·rw[ho]at hc;simp only at hc;rw[hb]at hc;cases hc;refine⟨hF,cur',by rw[hcur',ho],by rw[hsz,e2,ho],by rw[ho];simp;omega,by rw[ho];exact e4,?_⟩;rw[ho];simp only[hs1];exact Xt hl
 ·rw[ho]at hc⊢;exact⟨(h0.mo c hc).1,vi (h0.mo c hc).2.1 ht.size,(h0.mo c hc).2.2⟩
theorem cT {F:Nat->Prop}{w w':World}{o o':Own}{st:List Row}{b:Nat}{l l':List Int}{cur cur':Array Value}(hS:FN F [o] st w)(hb:o.Ea=some b)(hx:o.row.xs=l.map eI)(hs1:o.row.size=1)
  (ht:Gt w w' (some b)) (AAF:w.heap[b]?=some (.cells cur o.row.elem (0,0))) (hcur':w'.heap[b]?=some (.cells cur' o.row.elem (0,0))) (hsz:cur'.size=cur.size) (hle:l'.length<=l.length) (hl:cur'.toList.take l'.length=l'.map (Value.int .i64))
  (ho:o'=⟨{ o.row with gen:=o'.row.gen,xs:=l'.map eI },o.Ea,o.cap,o.more⟩):MZ F w' [o'] o':=iW (hS.rows 0 o rfl) hb hx hs1 ht AAF hcur' hsz hle hl ho
variable {P : Program} {f : FuncId} {g el : Nat} {l : List Int}
theorem cg {w:World}{b n:Nat}{cur:Array Value}{e:TypeId}{fr:Nat×Nat}(d:Array Int)(os:Array Obj)(hb:w.heap[b]?=some (.cells cur e fr)):
  (grow (putRow (Value.int .i64) (Sort.ahead w n) b 0 d) os).heap[b]?=some (.cells (putCells (Value.int .i64) 0 d cur) e fr)/\Gt w (grow (putRow (Value.int .i64) (Sort.ahead w n) b 0 d) os) (some b):=by
 refine⟨heap_sortedI d hb,rfl,rfl,rfl,by simp,λi hi hne=>?_⟩;rw[heap_grow_old _ _ (by simpa using hi)];have:b≠i:=λe=>hne (by rw[e]);simp[putRow,mapBlock,Sort.ahead,xn,this]
theorem fg {F:Nat->Prop}{os:List Own}{w:World}{row:Row}(hS:FN F os [row] w):∃o,os=[o]/\o.row=row:=by
 have h:=hS.st
 match os,h with
 | [o],h=>exact⟨o,rfl,by simpa using h⟩
 | [],h=>simp at h
 | _::_::_,h=>simp at h
theorem qo (hlt:l.length<4611686018427387904)(hs :∀(b c:Nat) (zs:List Int) (w:World),Holds (Value.int .i64) w b 0 zs.toArray->b<w.heap.size->zs.length<4611686018427387904->Calls P f #[.slice (some ⟨b,0,none⟩) zs.length c] w λe w'=>e=.returned (.tuple #[])/\∃n os,w'=grow (putRow (Value.int .i64) (Sort.ahead w n) b 0 (zs.mergeSort λx y=>decide (x<=y)).toArray) os)
  (h0 :∀(a:Option Addr) (c:Nat) (w:World),Calls P f #[.slice a 0 c] w λe w'=>e=.returned (.tuple #[])/\w'=w) :
  BW P f [.own 0 g l.length] [⟨g,el,1,l.map eI⟩] λv st=>v=.CW []/\st=[⟨g,el,1,(l.mergeSort λx y=>decide (x<=y)).map eI⟩]:=by
 intro F os w vs hS hL;obtain⟨o,rfl,zh⟩:=fg hS;have zp:=hS.rows 0 o rfl;have hx:o.row.xs=l.map eI:=by rw[zh]
 simp only[Bc]at hL;obtain⟨u,_,rfl,hu,rfl⟩:=hL;simp only[Ae]at hu;obtain⟨o1,ho1,_,_,hu⟩:=hu;simp only[vC,uO]at ho1;subst ho1;obtain⟨_,hu⟩:=hu (by rw[zh]);rw[hx,uZ]at hu;simp only[wX,xI,xO]at hu;have hres:Ae F w [] (.CW []) (.tuple #[]):=by simp only[Ae];exact⟨[],rfl,by simp[Bc]⟩
 rcases hu with ⟨hb,a,rfl⟩|⟨b,hb,rfl⟩
 ·have hnil:=(zp.none hb).1;rw[hx]at hnil;have hl:l=[]:=by simpa using hnil
  subst hl;refine (h0 a 0 w).mono λe w' ⟨he,hw⟩=>?_;subst hw;exact⟨_,_,_,F,[o],he,⟨rfl,rfl⟩,⟨by simpa using hS.st,hS.rows,hS.inj,hS.GK⟩,XD _ hres,Ext.refl _ _ _ _⟩
 ·obtain⟨hF,cur,AAF,hsz,hle,hmx,AAE⟩:=zp.some b hb;have Ga:o.row.size=1:=by rw[zh]
  rw[hx]at AAE hle;rw[Ga]at AAE hsz;have ht:=Sy AAE;have hlen:l.length<=o.cap:=by simpa using hle
  refine (hs b o.cap l w (holds_of_blockI AAF ht) (vR.1 AAF).1 hlt).mono λe w' ⟨he,n,os',hw⟩=>?_;subst hw;obtain⟨q1,q2⟩:=cg (n:=n) (l.mergeSort λx y=>decide (x<=y)).toArray os' AAF;have hok':=cT (o':=⟨{ o.row with xs:=(l.mergeSort λx y=>decide (x<=y)).map eI },o.Ea,o.cap,o.more⟩) hS hb hx Ga q2 AAF q1 (by simp[putCells]) (by simp)
   (take_putCellsI cur _ (by simp;rw[hsz];omega)) rfl
  obtain⟨r1,r2⟩:=hS.pL (o':=⟨{ o.row with xs:=(l.mergeSort λx y=>decide (x<=y)).map eI },o.Ea,o.cap,o.more⟩) (by rw[hb];exact q2) rfl (uq _) (λ_=>by rw[hx];simp) rfl rfl rfl hok';exact⟨_,_,_,F,_,he,⟨rfl,by rw[zh]⟩,r1,by simp only[Ae];exact⟨[],rfl,by simp[Bc]⟩,r2⟩
theorem YG {α:Type}[Inhabited α][DecidableEq α](d:Array α)(m:Nat):(Lib.compactUpTo d m).length<=m:=by
 unfold Lib.compactUpTo;rw[uZ];exact wx (vr _ _) (by simp)
theorem gy (hs :∀(b c:Nat) (zs:List Int) (w:World),Holds (Value.int .i64) w b 0 zs.toArray->zs.length<=9223372036854775807->zs.length<=c->Calls P f #[.slice (some ⟨b,0,none⟩) zs.length c] w λe w'=>e=.returned (.slice (some ⟨b,0,none⟩) (Lib.compact zs).length c)/\∃q,w'=putRow (Value.int .i64) (Sort.ahead w q) b 0 (Lib.compact zs++List.replicate (zs.length-(Lib.compact zs).length) 0).toArray)
  (h0 :∀(a:Option Addr) (c:Nat) (w:World),Calls P f #[.slice a 0 c] w λe w'=>e=.returned (.slice a 0 c)/\w'=w) :
  BW P f [.own 0 g l.length] [⟨g,el,1,l.map eI⟩] λv st=>v=.own 0 (g+1) (Lib.compact l).length/\st=[⟨g+1,el,1,(Lib.compact l).map eI⟩]:=by
 intro F os w vs hS hL;obtain⟨o,rfl,zh⟩:=fg hS;have zp:=hS.rows 0 o rfl;have hx:o.row.xs=l.map eI:=by rw[zh]
 simp only[Bc]at hL;obtain⟨u,_,rfl,hu,rfl⟩:=hL;simp only[Ae]at hu;obtain⟨o1,ho1,_,_,hu⟩:=hu;simp only[vC,uO]at ho1;subst ho1;obtain⟨_,hu⟩:=hu (by rw[zh]);rw[hx,uZ]at hu;simp only[wX,xI,xO]at hu;rcases hu with ⟨hb,a,rfl⟩|⟨b,hb,rfl⟩
 ·have hnil:=(zp.none hb).1;rw[hx]at hnil;have hl:l=[]:=by simpa using hnil
  subst hl;refine (h0 a 0 w).mono λe w' ⟨he,hw⟩=>?_;subst hw;obtain⟨r1,r2⟩:=hS.pL (o':=⟨{ o.row with gen:=o.row.gen+1 },o.Ea,o.cap,o.more⟩) (w':=w') (Gt.refl _ _) rfl (by simp) (λe=>by simp at e) rfl rfl rfl ⟨zp.pos,zp.lens,zp.none,(λb' hb'=>by simp only at hb';rw[hb]at hb';cases hb'),zp.mo,zp.deep.keep rfl (λ_ h=>h) rfl (λ_ _=>rfl) (λi x j e s ys h1 h2=>⟨x,h1,h2⟩)⟩;refine⟨_,_,_,F,_,he,⟨rfl,by rw[zh];rfl⟩,r1,?_,r2⟩;simp only[Ae];exact⟨_,rfl,by rw[zh];exact uq _,⟨_,_,_,rfl⟩,λ_=>⟨by simp[Lib.compact,Lib.compactUpTo],.inl ⟨hb,a,rfl⟩⟩⟩
 ·obtain⟨hF,cur,AAF,hsz,hle,hmx,AAE⟩:=zp.some b hb;have Ga:o.row.size=1:=by rw[zh]
  rw[hx]at AAE hle;rw[Ga]at AAE hsz;have ht:=Sy AAE;have hlen:l.length<=o.cap:=by simpa using hle
  have hcl:(Lib.compact l).length<=l.length:=YG _ _;refine (hs b o.cap l w (holds_of_blockI AAF ht) (by simp only[maxLen]at hmx;omega) hlen).mono λe w' ⟨he,n,hw⟩=>?_;rw[<- grow_empty (putRow _ _ _ _ _)]at hw;subst hw;obtain⟨q1,q2⟩:=cg (n:=n) (Lib.compact l++List.replicate (l.length-(Lib.compact l).length) 0).toArray #[] AAF;have htk:=take_putCellsI cur (Lib.compact l++List.replicate (l.length-(Lib.compact l).length) 0) (by simp;omega);have htk2:(putCells (Value.int .i64) 0 (Lib.compact l++List.replicate (l.length-(Lib.compact l).length) 0).toArray cur).toList.take (Lib.compact l).length=(Lib.compact l).map (Value.int .i64):=by
   have:=vI (List.take (Lib.compact l).length) htk;rw[List.take_take,wV (by simp)]at this;rw[this,<- yX,List.take_left]
  have hok':=cT (o':=⟨{ o.row with gen:=o.row.gen+1,xs:=(Lib.compact l).map eI },o.Ea,o.cap,o.more⟩) hS hb hx Ga q2 AAF q1 (by simp[putCells]) hcl htk2 rfl;obtain⟨r1,r2⟩:=hS.pL (o':=⟨{ o.row with gen:=o.row.gen+1,xs:=(Lib.compact l).map eI },o.Ea,o.cap,o.more⟩) (by rw[hb];exact q2) rfl (by simp) (λe=>by simp at e) rfl rfl rfl hok';refine⟨_,_,_,F,_,he,⟨rfl,by rw[zh]⟩,r1,?_,r2⟩;simp only[Ae];exact⟨_,rfl,by rw[zh];exact uq _,⟨_,_,_,rfl⟩,λ_=>⟨by simp,.inr ⟨b,hb,by simp⟩⟩⟩
end Go.Abs
