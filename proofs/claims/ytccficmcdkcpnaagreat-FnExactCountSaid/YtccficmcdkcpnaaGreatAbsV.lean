import Derived.Test.YtccficmcdkcpnaaGreatAbsU
set_option linter.all false
namespace Go.Abs
open Go
theorem WM {P:Program}{o:Oper}{a:Act}{w:World}{next:Act->World->Prop}{Q Q':Exit->Act->World->Prop}(hp :∀c a w,Q (.panic c) a w->Q' (.panic c) a w)(ho:LetsOut Q->LetsOut Q')(h:o.wp P a w next Q):o.wp P a w next Q':=by
 unfold Oper.wp at *;generalize (execOp a.eval o).run P w=r at *;cases r with
 | ok n w'=>
  cases n<;>simp only[Oper.upon]at h⊢
  case value=>exact h
  case skip=>exact h
  case defer=>exact h
  case enter f args=>
   refine Calls.mono h λe w'' he=>?_;cases e with
   | returned u=>exact he
   | panicked c=>exact hp _ _ _ he
   | outgrown=>exact ho he
  case row=>exact h
 | halt x w'=>
  cases x<;>simp only[Oper.upon]at h⊢
  case panic u=>exact hp _ _ _ h
section
variable {P : Program} {k : Nat} {ops : Array Oper} {Q : Exit -> St -> Prop} {N f i : Nat} {zU : Array Bool} {s s' : St} {o : Oper}
def Rh (k:Nat)(Q:Exit->St->Prop)(F:Nat->Prop)(os:List Own)(w:World):Exit->Act->World->Prop:=SG k (λe s'=>e=.normal/\Q e s') F os w
def AX (P:Program)(k:Nat)(ops:Array Oper)(Q:Exit->St->Prop)(N f:Nat)(zU:Array Bool)(s:St):Prop:=
 s.n=N/\∀F0 os0 w0 F os a w,Rel F os s a w->Ext F0 os0 w0 F os w k->wpAny P .any ops (Rh k Q F0 os0 w0) f zU a w
def Kz (P:Program)(k:Nat)(ops:Array Oper)(Q:Exit->St->Prop)(N f:Nat)(zU:Array Bool)(s:St)(i:Nat):Prop:=
 ∀F0 os0 w0 F os a w,Rel F os s a w->Ext F0 os0 w0 F os w k->wpOp P ops (Rh k Q F0 os0 w0) i (wpAny P .any ops (Rh k Q F0 os0 w0) f (zU.setIfInBounds i true)) a w
def kx (P:Program)(k:Nat)(ops:Array Oper)(Q:Exit->St->Prop)(N f:Nat)(zU:Array Bool)(s:St):List Nat->Prop
 | []=>True
 | i::r=>Kz P k ops Q N f zU s i/\kx P k ops Q N f zU s r
theorem kx.get:∀{l:List Nat},kx P k ops Q N f zU s l->∀i∈l,Kz P k ops Q N f zU s i
 | j::r,h,i,hi=>by
  rcases uz.1 hi with rfl|hi
  ·exact h.1
  ·exact kx.get h.2 i hi
theorem AX.all (rs:List Nat)(hn:s.n=N)(hr:Region.ready .any ops zU=rs)(hne:rs≠[])(h:kx P k ops Q N f zU s rs):AX P k ops Q N (f+1) zU s:=
 ⟨hn,λF0 os0 w0 F os a w hrel he=>wpAny_all hr hne λi hi=>h.get i hi F0 os0 w0 F os a w hrel he⟩
theorem PS (hn:s.n=N)(hr:Region.ready .any ops zU=[])(h:Q .normal s):AX P k ops Q N f zU s:=
 ⟨hn,λ_ _ _ F os a w hrel he=>wpAny_done hr ⟨s,F,os,⟨rfl,h⟩,hrel,he⟩ f⟩
theorem Vp (hw:Wk k s s')(h:AX P k ops Q N f zU s')(hn:s.n=N):AX P k ops Q N f zU s:=
 ⟨hn,λF0 os0 w0 F os a w hrel he=>by
  obtain⟨F1,os1,h1,e1⟩:=hw F os a w hrel;exact h.2 F0 os0 w0 F1 os1 a w h1 (he.trans e1)⟩
def RM (o:Oper)(i:Nat):Bool:=match o.guard with
 | none=>true
 | some (j,_)=>decide (j<i+1)
theorem Kz.of (ho:ops[i]?=some o)(hg:RM o i=true)(hd:(ops.toList.all λo=>DK s.n o.dst)=true)
  (h:AO P k (ops.extract 0 (i+1)) (λe s'=>e=.normal/\AX P k ops Q N f (zU.setIfInBounds i true) s') ((ops.toList.take i).map (·.dst)) [o] s):Kz P k ops Q N f zU s i:=by
 intro F0 os0 w0 F os a w hrel he;have hi:i<ops.size:=(vR.1 ho).1;have hex:∀j,(ops.extract 0 (i+1))[j]?=if j<i+1 then ops[j]? else none:=λj=>by
  rw[Array.getElem?_extract];split<;>split<;>simp_all<;>omega
 have h1:=h (λj=>by
   have hlen:((ops.toList.take i).map (·.dst)).length=i:=by simp;omega
   rw[hlen,hex];cases j with
   | zero=>simp[ho]
   | succ j=>rw[uY (by omega)];simp) (λj d hj=>by
   simp only[uP,vN]at hj;split at hj
   ·rw[hex,uX (by omega)];simpa using hj
   ·cases hj) (λo' ho'=>by
   obtain⟨j,hj⟩:=vF.1 ho';rw[wA,hex]at hj;split at hj
   ·exact uS.1 hd o' (uL (i:=j) (by simpa using hj))
   ·cases hj) F os a w hrel (λe a' w'=>e=.normal/\wpAny P .any ops (Rh k Q F0 os0 w0) f (zU.setIfInBounds i true) a' w') (by
   rintro e a' w' ⟨s',F',os',⟨rfl,hax⟩,hr',he'⟩;exact⟨rfl,hax.2 F0 os0 w0 F' os' a' w' hr' (he.trans he')⟩)
 have hy:Region.wanted o (yielded (ops.extract 0 (i+1)) a.tmps)=Region.wanted o (yielded ops a.tmps):=by
  unfold Region.wanted;unfold RM at hg;cases hgd:o.guard with
  | none=>rfl
  | some p=>
   obtain⟨j,want⟩:=p;rw[hgd]at hg;simp only[uj]at hg;simp only[yielded,hex,uX hg]
 unfold wpList at h1;unfold wpOp;simp only[ho];rw[hy]at h1;split at h1
 ·rename_i hw;rw[uX hw];rcases h1 with h1|⟨_,a1,w1,h1,_⟩
  ·refine .inl (Oper.wp_mono (λa' w' h'=>?_) (WM (λc a' w' h'=>?_) (λh'=>?_) h1))
   ·exact h'.2
   ·exact nomatch h'.1
   ·obtain⟨_,_,h2,_⟩:=h';exact nomatch h2
  ·exact nomatch h1
 ·rename_i hw;rw[uY hw];exact h1.2
def Pd (P:Program)(s:St)(o:Oper)(v:AV):Prop:=
 o.guard=none/\∀F os a w,Rel F os s a w->∃u,(∀w',(execOp a.eval o).run P w'=.ok (.value u) w')/\Ae F w os v u
theorem OQ (i:Nat){v:AV}(hn:s.n=N)(ho:ops[i]?=some o)(hs:Region.noSelect ops=true)(hf:Region.free .any ops zU i=true)(hr:(Region.ready .any ops zU).contains i=true)(hd:DK s.n o.dst=true)(hh:Pd P s o v)
  (h:AX P k ops Q N f (zU.setIfInBounds i true) (s.put o.dst v)):AX P k ops Q N (f+1) zU s:=
 ⟨hn,λF0 os0 w0 F os a w hrel he=>by
  obtain⟨hg,hh⟩:=hh;obtain⟨u,hu,hv⟩:=hh F os a w hrel;refine wpAny_take ho hs hf hr (λc a w ⟨_,_,_,hp,_⟩=>nomatch hp.1) (.inl ⟨by unfold Region.wanted;rw[hg],hu⟩) ?_;exact h.2 F0 os0 w0 F os _ w (hrel.put hd hv) he⟩
theorem OW {id:Nat}(hm:P.follows .mixedOrders=true)(h:AX P k ops Q s.n ops.size (Array.replicate ops.size false) s):AW P k (.region id ops true) Q s:=by
 refine AW.mono (Q:=λe s'=>e=.normal/\Q e s') ?_ λe s' hq=>hq.2;intro F os a w hr;obtain⟨hr1,he1⟩:=hr.drew (k:=k);refine wp_region_any hm ?_;exact h.2 F os w F os a w.drew hr1 he1
end
section
variable {P : Program} {n : Nat} {e : Nat -> AV} {st : List Row} {t : Tmp} {ty : TypeId} {ps : String} {ed : Array Edge} {x : Operand} {v : AV}
theorem BY (h:St.ev ⟨n,e,st⟩ x=v):Pd P ⟨n,e,st⟩ ⟨some t,.move x,ty,ps,ed,none⟩ v:=
 ⟨rfl,λ_ _ a _ hr=>⟨a.eval x,λ_=>rfl,h▸hr.ev x⟩⟩
theorem lW (h:St.ev ⟨n,e,st⟩ x=v):Pd P ⟨n,e,st⟩ ⟨some t,.assign x,ty,ps,ed,none⟩ v:=
 ⟨rfl,λ_ _ a _ hr=>⟨a.eval x,λ_=>rfl,h▸hr.ev x⟩⟩
theorem Bk {id g i off el size:Nat}{xs:List (List AV)}(h:St.ev ⟨n,e,st⟩ x=.ptr id g i off)(zh:st[id]?=some ⟨g,el,size,xs⟩):Pd P ⟨n,e,st⟩ ⟨some t,.nilCheck x,ty,ps,ed,none⟩ (.ptr id g i off):=
 ⟨rfl,λF os a w hr=>by
  have h1:=hr.ev x;rw[h]at h1;refine⟨a.eval x,λw'=>?_,h1⟩;simp only[Ae]at h1;obtain⟨o,ho,_,_,h2⟩:=h1;have hst:os.map Own.row=st:=hr.st;have hg:o.row.gen=g:=by
   rw[<- hst,uP,ho]at zh;simp only[vY,uO]at zh;rw[zh]
  obtain⟨_,_,b,_,e2⟩:=h2 hg;simp[execOp,e2]⟩
end
theorem Fj {k n:Nat}{e:Nat->AV}{st st':List Row}(h:st=st'):Wk k ⟨n,e,st⟩ ⟨n,e,st'⟩:=h▸Wk.refl _ _
section
variable {P : Program} {k : Nat}
variable {ops : Array Oper} {Q : Exit -> St -> Prop} {ds : List (Option Tmp)} {r : List Oper} {n : Nat} {e : Nat -> AV} {st st' : List Row} {ty : TypeId} {ps : String} {ed : Array Edge} {d : Option Tmp} {v v' : AV} {gd : Option (Nat × Bool)}
variable {f : FuncId} {ars : Array Operand} {ts : Array TypeId} {args args' : List AV} {rowsP rows0 rows1 rows1' rows2 rows2' : List Row}
theorem Ib {tf:Tmp}{caps:List AV}(sel:List Nat)(hg:GO ds gd e)(hfn:e tf=.fn f caps)(hb:DP P f=true)(hc:BW P f args' rows0 λr st=>r=v/\st=rows1++rows2)(ha:ars.toList.map (St.ev ⟨n,e,st⟩)++caps=args)(hnd:sel.Nodup)(hlt:sel.all (·<st.length)=true)
  (hp:Ca st sel=rowsP) (hs:SR sel rowsP rows0) (hf:args.map (L0 sel)=args') (hlen:rows1.length=sel.length) (h1:UN sel st.length rows1 rows1') (h2:UN sel st.length rows2 rows2') (hv:bQ sel st.length v=v') (hst':KN sel rows1' 0 st++rows2'=st')
  (hk:AO P k ops Q (ds++[d]) r (St.put ⟨n,e,st'⟩ d v')):AO P k ops Q ds (⟨d,.call ⟨.value (.tmp tf),ars,ts⟩,ty,ps,ed,gd⟩::r) ⟨n,e,st⟩:=by
 subst hst';subst ha;subst hv;subst hp;refine ON hg ?_;rw[WK,show (St.mk n e st).env tf=e tf from rfl,hfn];refine⟨hb,Th λhle=>?_⟩;obtain⟨e1,e2⟩:=hs.spec (st0:=st) hle (λrow zh=>by
  obtain⟨i,_,hi⟩:=wT.1 zh;exact uL hi)
 refine Uf sel hc hnd (λi hi=>by simpa using uS.1 hlt i hi) e1 e2 hf hlen (λrow zh=>by
  rcases vJ.1 zh with h|h
  ·exact h1.leaf row h
  ·exact h2.leaf row h) λ_=>?_
 simp only[h1.spec,h2.spec];exact hk
end
theorem E1 {P:Program}{s:St}{x y:Operand}{t:TypeId}{kk:IntKind}{α:Type}{l:List α}{enc:α->List AV}{n:Int}{u:α}{el size bytes:Nat}{zz cs:List AV}(he:Ck P t=some ⟨el,size,bytes,zz⟩)(hx:s.ev x=.sl (l.map enc))(hy:s.ev y=.int kk n)(hg:Sh.get l n=some u)(hq:enc u=cs)(hs:cs.length=size):
  AQ P s (.indexAddr t x y) (.Bj cs 0):=by subst hq;exact Vb he hx hy hg hs
theorem Wx {P:Program}{k:Nat}{c:Code}{Q:Exit->St->Prop}{s:St}(h :∀K:St->Prop,(∀s',Q .normal s'->K s')->AW P k c (TW K Q) s):AW P k c Q s:=
 (h (λs'=>Q .normal s') λ_ h=>h).mono λe s' hq=>by cases e<;>exact hq
end Go.Abs
