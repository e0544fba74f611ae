import Derived.Test.YtihdgoiebmfapaaGreatAbsA
set_option linter.all false
namespace Go.Abs
open Go
def K0 (k:Nat)(Q:Exit->St->Prop)(F:Nat->Prop)(os:List Own)(w:World):Exit->Act->World->Prop:=
 λe a' w'=>∃s' F' os',Q e s'/\Rel F' os' s' a' w'/\Ext F os w F' os' w' k
def AW (P:Program)(k:Nat)(c:Code)(Q:Exit->St->Prop)(s:St):Prop:=
 ∀F os a w,Rel F os s a w->c.wp P (K0 k Q F os w) a w
def LQ (K:St->Prop)(Q:Exit->St->Prop):Exit->St->Prop
 |.normal,s=>K s
 |e,s=>Q e s
def Wk (k:Nat)(s s':St):Prop:=
 ∀F os a w,Rel F os s a w->∃F' os',Rel F' os' s' a w/\Ext F os w F' os' w k
theorem Wk.refl (k:Nat)(s:St):Wk k s s:=λF os _ w h=>⟨F,os,h,Ext.refl F os w k⟩
theorem Wk.trans {k:Nat}{s s' s'':St}(h:Wk k s s')(g:Wk k s' s''):Wk k s s'':=λF os a w hr=>by
 obtain⟨F1,vD,h1,e1⟩:=h F os a w hr;obtain⟨F2,os2,h2,e2⟩:=g F1 vD a w h1;exact⟨F2,os2,h2,e1.trans e2⟩
variable {P : Program} {k : Nat} {Q : Exit -> St -> Prop} {s : St}
theorem AW.mono {c:Code}{Q':Exit->St->Prop}(h:AW P k c Q s)(hq :∀e s,Q e s->Q' e s):AW P k c Q' s:=
 λF os a w hr=>rn (h F os a w hr) λe _ _ ⟨s',F',os',hQ,hR,hE⟩=>⟨s',F',os',hq e s' hQ,hR,hE⟩
theorem AG {c:Code}{s':St}(hw:Wk k s s')(h:AW P k c Q s'):AW P k c Q s:=λF os a w hr=>by
 obtain⟨F1,vD,h1,e1⟩:=hw F os a w hr;exact rn (h F1 vD a w h1) λe _ _ ⟨s2,F2,os2,hQ,hR,hE⟩=>⟨s2,F2,os2,hQ,hR,e1.trans hE⟩
theorem K0.trans {F F':Nat->Prop}{os os':List Own}{w w':World}(he:Ext F os w F' os' w' k){e:Exit}{a:Act}{w2:World}
  (h:K0 k Q F' os' w' e a w2):K0 k Q F os w e a w2:=
 let ⟨s2,F2,os2,hQ,hR,hE⟩:=h
 ⟨s2,F2,os2,hQ,hR,he.trans hE⟩
theorem AE {x y:Code}(h :∀K:St->Prop,(∀s,AW P k y Q s->K s)->AW P k x (LQ K Q) s):AW P k (.seq x y) Q s:=by
 intro F os a w hr;refine wp_seq (rn (h (AW P k y Q) (λ_ h=>h) F os a w hr) ?_);rintro e a' w' ⟨s',F',os',hQ,hR,hE⟩;cases e with
 |normal=>exact rn (hQ F' os' a' w' hR) λe a2 w2 hp=>hp.trans hE
 |exit id=>exact⟨s',F',os',hQ,hR,hE⟩
 |goto l=>exact⟨s',F',os',hQ,hR,hE⟩
 |ret=>exact⟨s',F',os',hQ,hR,hE⟩
 |panic ch=>exact⟨s',F',os',hQ,hR,hE⟩
 |outgrown=>exact⟨s',F',os',hQ,hR,hE⟩
theorem AH (h:Q .normal s):AW P k .skip Q s:=λF os _ w hr=>wp_skip ⟨s,F,os,h,hr,Ext.refl _ _ _ _⟩
theorem Au {id:Nat}(h:Q (.exit id) s):AW P k (.exit id) Q s:=λF os _ w hr=>wp_exit ⟨s,F,os,h,hr,Ext.refl _ _ _ _⟩
theorem Am (h:Q .ret s):AW P k .ret Q s:=λF os _ w hr=>wp_ret ⟨s,F,os,h,hr,Ext.refl _ _ _ _⟩
def W5 (id:Nat)(Q:Exit->St->Prop):Exit->St->Prop
 |.exit vH,s=>if vH=id then Q .normal s else Q (.exit vH) s
 |e,s=>Q e s
theorem AL {id:Nat}{c:Code}(h:AW P k c (W5 id Q) s):AW P k (.block id c) Q s:=by
 intro F os a w hr;refine wp_block (rn (h F os a w hr) ?_);rintro e a' w' ⟨s',F',os',hQ,hR,hE⟩;cases e with
 |exit vH=>
  simp only[Exit.inBlock,W5]at hQ⊢;split at hQ<;>rename_i xA
  .rw[pI xA];exact⟨s',F',os',hQ,hR,hE⟩
  .rw[pJ xA];exact⟨s',F',os',hQ,hR,hE⟩
 |_=>exact⟨s',F',os',hQ,hR,hE⟩
def OC:Value->AV
 |.int k n=>.int k n
 |.bool b=>.bool b
 |.string s=>.str s
 |.pointer none=>.SL
 |.slice none 0 0=>.zc
 |.nilFunc=>.SE
 |_=>.FZ
def Nj:Value->AV
 |.slice none 0 0=>.sl []
 |v=>OC v
def ofConst:Value->AV
 |.agg cs=>.agg (cs.toList.map Nj)
 |v=>OC v
theorem Qi (F:Nat->Prop)(w:World)(os:List Own)(v:Value):Ab F w os (OC v) v:=by
 unfold OC;split<;>simp[Ab]
theorem PU (F:Nat->Prop)(w:World)(os:List Own):∀vs:List Value,Br F w os (vs.map OC) vs
 | []=>by simp[Br]
 |v::vs=>by simp only[pc,Br];exact⟨v,vs,rfl,Qi F w os v,PU F w os vs⟩
theorem Mt (F:Nat->Prop)(w:World)(os:List Own)(v:Value):Ab F w os (Nj v) v:=by
 unfold Nj;split
 .simp only[Ab];exact⟨none,0,rfl,pL _,by simp⟩
 .exact Qi F w os _
theorem R4 (F:Nat->Prop)(w:World)(os:List Own):∀vs:List Value,Br F w os (vs.map Nj) vs
 | []=>by simp[Br]
 |v::vs=>by simp only[pc,Br];exact⟨v,vs,rfl,Mt F w os v,R4 F w os vs⟩
theorem aS (F:Nat->Prop)(w:World)(os:List Own)(v:Value):Ab F w os (ofConst v) v:=by
 unfold ofConst;split
 .simp only[Ab];exact⟨_,by simp,R4 F w os _⟩
 .exact Qi F w os v
def St.ev (s:St):Operand->AV
 |.tmp t=>s.env t
 |.const v=>ofConst v
 |.global _=>.FZ
 |.func f=>.fn f []
theorem Rel.ev {F:Nat->Prop}{os:List Own}{a:Act}{w:World}(h:Rel F os s a w)(x:Operand):Ab F w os (s.ev x) (a.eval x):=by
 cases x with
 |tmp t=>exact h.env t
 |const v=>exact aS F w os v
 |global g=>simp[St.ev,Ab]
 |func f=>simp only[St.ev,Ab];exact⟨[],rfl,by simp[Br]⟩
def St.put (s:St)(d:Option Tmp)(v:AV):St:=
 match d with
 |none=>s
 |some d=>{ s with env:=DQ s.env d v }
def Cy (n:Nat):Option Tmp->Bool
 |none=>true
 |some d=>d<n
theorem Rel.put {F:Nat->Prop}{os:List Own}{a:Act}{w:World}(h:Rel F os s a w){d:Option Tmp}(hd:Cy s.n d=true){v:AV}{u:Value}(hv:Ab F w os v u):
  Rel F os (s.put d v) (a.put d u) w:=by
 cases d with
 |none=>exact h
 |some d=>
  simp only[Cy,pP]at hd;refine⟨h.st,λj=>?_,by simp[Act.put,St.put,h.size],h.rows,h.inj,h.Fu,h.defers⟩;simp only[St.put,DQ,Act.put,qm];by_cases hj:j=d
  .subst hj;rw[pI rfl,Array.getElem?_setIfInBounds_self_of_lt (by rw[h.size];exact hd)];exact hv
  .rw[pJ hj,Array.getElem?_setIfInBounds_ne (qv hj)];have:=h.env j;rwa [qm]at this
theorem Rel.un {F:Nat->Prop}{os:List Own}{a:Act}{w:World}(h:Rel F os s a w){d:Option Tmp}(hd:Cy s.n d=true):Rel F os (s.put d .un) (a.put d undef) w:=
 h.put hd (by simp[Ab])
def jD (v:AV)(K:Bool->Prop):Prop:=
 match v with
 |.bool b=>K b
 |_=>False
theorem AW.cond {c:Operand}{x y:Code}(h :∀K1 K2:Prop,(AW P k x Q s->K1)->(AW P k y Q s->K2)->jD (s.ev c) λb=>(b=true->K1)/\(b=false->K2)):AW P k (.cond c x y) Q s:=by
 intro F os a w hr;have h1:=h _ _ id id;have h2:=hr.ev c;generalize s.ev c=v at h1 h2;cases v<;>simp only[jD]at h1;rename_i b;simp only[Ab]at h2;refine wp_cond h2 ?_;cases b
 .exact h1.2 rfl F os a w hr
 .exact h1.1 rfl F os a w hr
end Go.Abs
