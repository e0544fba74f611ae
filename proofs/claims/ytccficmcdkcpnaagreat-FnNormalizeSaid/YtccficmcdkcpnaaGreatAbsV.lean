import Derived.Test.YtccficmcdkcpnaaGreatAbsU
set_option linter.all false
namespace Go.Abs
open Go
theorem Qh {P:Program}{o:Oper}{a:Act}{w:World}{next:Act->World->Prop}{Q Q':Exit->Act->World->Prop}(hp :∀c a w,Q (.panic c) a w->Q' (.panic c) a w)(ho:LetsOut Q->LetsOut Q')(h:o.wp P a w next Q):o.wp P a w next Q':=by
 unfold Oper.wp at *;generalize (execOp a.eval o).run P w=r at *;cases r with
 | ok n w'=>
  cases n<;>simp only[Oper.upon]at h⊢
  case value=>exact h
  case skip=>exact h
  case defer=>exact h
  case enter f args=>
   refine Calls.mono h λe w'' he=>?_;cases e with
   | returned u=>exact he
   | panicked c=>exact hp _ _ _ he
   | outgrown=>exact ho he
  case row=>exact h
 | halt x w'=>
  cases x<;>simp only[Oper.upon]at h⊢
  case panic u=>exact hp _ _ _ h
section
variable {P : Program} {k : Nat} {ops : Array Oper} {Q : Exit -> St -> Prop} {N f i : Nat} {uU : Array Bool} {s s' : St} {o : Oper}
def Qo (k:Nat)(Q:Exit->St->Prop)(F:Nat->Prop)(os:List Own)(w:World):Exit->Act->World->Prop:=Mk k (λe s'=>e=.normal/\Q e s') F os w
def AX (P:Program)(k:Nat)(ops:Array Oper)(Q:Exit->St->Prop)(N f:Nat)(uU:Array Bool)(s:St):Prop:=
 s.n=N/\∀F0 os0 w0 F os a w,Rel F os s a w->Ext F0 os0 w0 F os w k->wpAny P .any ops (Qo k Q F0 os0 w0) f uU a w
def KQ (P:Program)(k:Nat)(ops:Array Oper)(Q:Exit->St->Prop)(N f:Nat)(uU:Array Bool)(s:St)(i:Nat):Prop:=
 ∀F0 os0 w0 F os a w,Rel F os s a w->Ext F0 os0 w0 F os w k->wpOp P ops (Qo k Q F0 os0 w0) i (wpAny P .any ops (Qo k Q F0 os0 w0) f (uU.setIfInBounds i true)) a w
def jA (P:Program)(k:Nat)(ops:Array Oper)(Q:Exit->St->Prop)(N f:Nat)(uU:Array Bool)(s:St):List Nat->Prop
 | []=>True
 | i::r=>KQ P k ops Q N f uU s i/\jA P k ops Q N f uU s r
theorem jA.get:∀{l:List Nat},jA P k ops Q N f uU s l->∀i∈l,KQ P k ops Q N f uU s i
 | j::r,h,i,hi=>by
  rcases qH.1 hi with rfl|hi
  ·exact h.1
  ·exact jA.get h.2 i hi
theorem AX.all (rs:List Nat)(hn:s.n=N)(hr:Region.ready .any ops uU=rs)(vZ:rs≠[])(h:jA P k ops Q N f uU s rs):AX P k ops Q N (f+1) uU s:=
 ⟨hn,λF0 os0 w0 F os a w vb he=>wpAny_all hr vZ λi hi=>h.get i hi F0 os0 w0 F os a w vb he⟩
theorem GP (hn:s.n=N)(hr:Region.ready .any ops uU=[])(h:Q .normal s):AX P k ops Q N f uU s:=
 ⟨hn,λ_ _ _ F os a w vb he=>wpAny_done hr ⟨s,F,os,⟨rfl,h⟩,vb,he⟩ f⟩
theorem Ie (hw:Wk k s s')(h:AX P k ops Q N f uU s')(hn:s.n=N):AX P k ops Q N f uU s:=
 ⟨hn,λF0 os0 w0 F os a w vb he=>by
  obtain⟨F1,vo,h1,e1⟩:=hw F os a w vb;exact h.2 F0 os0 w0 F1 vo a w h1 (he.trans e1)⟩
def QB (o:Oper)(i:Nat):Bool:=match o.guard with
 | none=>true
 | some (j,_)=>decide (j<i+1)
theorem KQ.of (ho:ops[i]?=some o)(hg:QB o i=true)(hd:(ops.toList.all λo=>DG s.n o.dst)=true)
  (h:AO P k (ops.extract 0 (i+1)) (λe s'=>e=.normal/\AX P k ops Q N f (uU.setIfInBounds i true) s') ((ops.toList.take i).map (·.dst)) [o] s):KQ P k ops Q N f uU s i:=by
 intro F0 os0 w0 F os a w vb he;have hi:i<ops.size:=(qv.1 ho).1;have hex:∀j,(ops.extract 0 (i+1))[j]?=if j<i+1 then ops[j]? else none:=λj=>by
  rw[Array.getElem?_extract];split<;>split<;>simp_all<;>omega
 have h1:=h (λj=>by
   have hlen:((ops.toList.take i).map (·.dst)).length=i:=by simp;omega
   rw[hlen,hex];cases j with
   | zero=>simp[ho]
   | succ j=>rw[qG (by omega)];simp) (λj d hj=>by
   simp only[qA,ql]at hj;split at hj
   ·rw[hex,qF (by omega)];simpa using hj
   ·cases hj) (λo' vc=>by
   obtain⟨j,hj⟩:=qf.1 vc;rw[ry,hex]at hj;split at hj
   ·exact qC.1 hd o' (pt (i:=j) (by simpa using hj))
   ·cases hj) F os a w vb (λe a' w'=>e=.normal/\wpAny P .any ops (Qo k Q F0 os0 w0) f (uU.setIfInBounds i true) a' w') (by
   rintro e a' w' ⟨s',F',os',⟨rfl,hax⟩,wS,he'⟩;exact⟨rfl,hax.2 F0 os0 w0 F' os' a' w' wS (he.trans he')⟩)
 have hy:Region.wanted o (yielded (ops.extract 0 (i+1)) a.tmps)=Region.wanted o (yielded ops a.tmps):=by
  unfold Region.wanted;unfold QB at hg;cases hgd:o.guard with
  | none=>rfl
  | some p=>
   obtain⟨j,want⟩:=p;rw[hgd]at hg;simp only[qJ]at hg;simp only[yielded,hex,qF hg]
 unfold wpList at h1;unfold wpOp;simp only[ho];rw[hy]at h1;split at h1
 ·rename_i hw;rw[qF hw];rcases h1 with h1|⟨_,a1,w1,h1,_⟩
  ·refine .inl (Oper.wp_mono (λa' w' h'=>?_) (Qh (λc a' w' h'=>?_) (λh'=>?_) h1))
   ·exact h'.2
   ·exact nomatch h'.1
   ·obtain⟨_,_,h2,_⟩:=h';exact nomatch h2
  ·exact nomatch h1
 ·rename_i hw;rw[qG hw];exact h1.2
def N0 (P:Program)(s:St)(o:Oper)(v:AV):Prop:=
 o.guard=none/\∀F os a w,Rel F os s a w->∃u,(∀w',(execOp a.eval o).run P w'=.ok (.value u) w')/\Ac F w os v u
theorem MH (i:Nat){v:AV}(hn:s.n=N)(ho:ops[i]?=some o)(hs:Region.noSelect ops=true)(hf:Region.free .any ops uU i=true)(hr:(Region.ready .any ops uU).contains i=true)(hd:DG s.n o.dst=true)(hh:N0 P s o v)
  (h:AX P k ops Q N f (uU.setIfInBounds i true) (s.put o.dst v)):AX P k ops Q N (f+1) uU s:=
 ⟨hn,λF0 os0 w0 F os a w vb he=>by
  obtain⟨hg,hh⟩:=hh;obtain⟨u,hu,hv⟩:=hh F os a w vb;refine wpAny_take ho hs hf hr (λc a w ⟨_,_,_,hp,_⟩=>nomatch hp.1) (.inl ⟨by unfold Region.wanted;rw[hg],hu⟩) ?_;exact h.2 F0 os0 w0 F os _ w (vb.put hd hv) he⟩
theorem Iw {id:Nat}(hm:P.follows .mixedOrders=true)(h:AX P k ops Q s.n ops.size (Array.replicate ops.size false) s):AW P k (.region id ops true) Q s:=by
 refine AW.mono (Q:=λe s'=>e=.normal/\Q e s') ?_ λe s' hq=>hq.2;intro F os a w hr;obtain⟨hr1,he1⟩:=hr.drew (k:=k);refine td hm ?_;exact h.2 F os w F os a w.drew hr1 he1
end
section
variable {P : Program} {n : Nat} {e : Nat -> AV} {st : List Row} {t : Tmp} {ty : TypeId} {ps : String} {ed : Array Edge} {x : Operand} {v : AV}
theorem D7 (h:St.ev ⟨n,e,st⟩ x=v):N0 P ⟨n,e,st⟩ ⟨some t,.move x,ty,ps,ed,none⟩ v:=
 ⟨rfl,λ_ _ a _ hr=>⟨a.eval x,λ_=>rfl,h▸hr.ev x⟩⟩
theorem iW (h:St.ev ⟨n,e,st⟩ x=v):N0 P ⟨n,e,st⟩ ⟨some t,.assign x,ty,ps,ed,none⟩ v:=
 ⟨rfl,λ_ _ a _ hr=>⟨a.eval x,λ_=>rfl,h▸hr.ev x⟩⟩
theorem G6 {id g i off el size:Nat}{xs:List (List AV)}(h:St.ev ⟨n,e,st⟩ x=.ptr id g i off)(uj:st[id]?=some ⟨g,el,size,xs⟩):N0 P ⟨n,e,st⟩ ⟨some t,.nilCheck x,ty,ps,ed,none⟩ (.ptr id g i off):=
 ⟨rfl,λF os a w hr=>by
  have h1:=hr.ev x;rw[h]at h1;refine⟨a.eval x,λw'=>?_,h1⟩;simp only[Ac]at h1;obtain⟨o,ho,_,_,h2⟩:=h1;have vX:os.map Own.row=st:=hr.st;have hg:o.row.gen=g:=by
   rw[<- vX,qA,ho]at uj;simp only[qx,pz]at uj;rw[uj]
  obtain⟨_,_,b,_,e2⟩:=h2 hg;simp[execOp,e2]⟩
end
theorem I3 {k n:Nat}{e:Nat->AV}{st st':List Row}(h:st=st'):Wk k ⟨n,e,st⟩ ⟨n,e,st'⟩:=h▸Wk.refl _ _
section
variable {P : Program} {k : Nat}
variable {ops : Array Oper} {Q : Exit -> St -> Prop} {ds : List (Option Tmp)} {r : List Oper} {n : Nat} {e : Nat -> AV} {st st' : List Row} {ty : TypeId} {ps : String} {ed : Array Edge} {d : Option Tmp} {v v' : AV} {gd : Option (Nat × Bool)}
variable {f : FuncId} {vf : Array Operand} {ts : Array TypeId} {args vV : List AV} {rowsP rows0 rows1 rows1' rows2 rows2' : List Row}
theorem eC {tf:Tmp}{vp:List AV}(sel:List Nat)(hg:GO ds gd e)(hfn:e tf=.fn f vp)(hb:Cr P f=true)(hc:BS P f vV rows0 λr st=>r=v/\st=rows1++rows2)(ha:vf.toList.map (St.ev ⟨n,e,st⟩)++vp=args)(wc:sel.Nodup)(vS:sel.all (·<st.length)=true)
  (hp:CD st sel=rowsP) (hs:SR sel rowsP rows0) (hf:args.map (Jx sel)=vV) (hlen:rows1.length=sel.length) (h1:UN sel st.length rows1 rows1') (h2:UN sel st.length rows2 rows2') (hv:SU sel st.length v=v') (xK:Fc sel rows1' 0 st++rows2'=st')
  (hk:AO P k ops Q (ds++[d]) r (St.put ⟨n,e,st'⟩ d v')):AO P k ops Q ds (⟨d,.call ⟨.value (.tmp tf),vf,ts⟩,ty,ps,ed,gd⟩::r) ⟨n,e,st⟩:=by
 subst xK;subst ha;subst hv;subst hp;refine PX hg ?_;rw[aD,show (St.mk n e st).env tf=e tf from rfl,hfn];refine⟨hb,MO λhle=>?_⟩;obtain⟨e1,e2⟩:=hs.spec (st0:=st) hle (λrow uj=>by
  obtain⟨i,_,hi⟩:=rQ.1 uj;exact pt hi)
 refine NO sel hc wc (λi hi=>by simpa using qC.1 vS i hi) e1 e2 hf hlen (λrow uj=>by
  rcases qb.1 uj with h|h
  ·exact h1.leaf row h
  ·exact h2.leaf row h) λ_=>?_
 simp only[h1.spec,h2.spec];exact hk
end
theorem CI {P:Program}{s:St}{x y:Operand}{t:TypeId}{kk:IntKind}{α:Type}{l:List α}{enc:α->List AV}{n:Int}{u:α}{el size bytes:Nat}{zz cs:List AV}(he:DR P t=some ⟨el,size,bytes,zz⟩)(hx:s.ev x=.sl (l.map enc))(hy:s.ev y=.int kk n)(hg:Sh.get l n=some u)(hq:enc u=cs)(hs:cs.length=size):
  AQ P s (.indexAddr t x y) (.CT cs 0):=by subst hq;exact Sc he hx hy hg hs
theorem jC {α:Type}{l:List α}{enc:α->List AV}{n:Int}{u:α}{cs:List AV}(h:Sh.get l n=some u)(he:enc u=cs):(l.map enc)[n.toNat]?=some cs:=by subst he;exact CM h
theorem ZX {P:Program}{k:Nat}{c:Code}{Q:Exit->St->Prop}{s:St}(h :∀K:St->Prop,(∀s',Q .normal s'->K s')->AW P k c (Ro K Q) s):AW P k c Q s:=
 (h (λs'=>Q .normal s') λ_ h=>h).mono λe s' hq=>by cases e<;>exact hq
end Go.Abs
