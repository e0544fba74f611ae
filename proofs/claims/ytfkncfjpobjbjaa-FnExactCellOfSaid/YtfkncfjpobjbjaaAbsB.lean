import Derived.Test.YtfkncfjpobjbjaaAbsA
set_option linter.all false
namespace Go.Abs
open Go
def Ge (k:Nat)(Q:Exit->St->Prop)(F:Nat->Prop)(os:List Own)(w:World):Exit->Act->World->Prop:=
 λe a' w'=>∃s' F' os',Q e s'/\Rel F' os' s' a' w'/\Ext F os w F' os' w' k
def AW (P:Program)(k:Nat)(c:Code)(Q:Exit->St->Prop)(s:St):Prop:=
 ∀F os a w,Rel F os s a w->c.wp P (Ge k Q F os w) a w
def NI (K:St->Prop)(Q:Exit->St->Prop):Exit->St->Prop
 | .normal,s=>K s
 | e,s=>Q e s
def Wk (k:Nat)(s s':St):Prop:=
 ∀F os a w,Rel F os s a w->∃F' os',Rel F' os' s' a w/\Ext F os w F' os' w k
theorem Wk.refl (k:Nat)(s:St):Wk k s s:=λF os _ w h=>⟨F,os,h,BN F os w k⟩
theorem Wk.trans {k:Nat}{s s' fL:St}(h:Wk k s s')(g:Wk k s' fL):Wk k s fL:=λF os a w hr=>by
 obtain⟨F1,UU,h1,e1⟩:=h F os a w hr;obtain⟨F2,os2,h2,e2⟩:=g F1 UU a w h1;exact⟨F2,os2,h2,e1.trans e2⟩
variable {P : Program} {k : Nat} {Q : Exit -> St -> Prop} {s : St}
theorem AH {c:Code}{s':St}(hw:Wk k s s')(h:AW P k c Q s'):AW P k c Q s:=λF os a w hr=>by
 obtain⟨F1,UU,h1,e1⟩:=hw F os a w hr;exact wp_mono (h F1 UU a w h1) λe _ _ ⟨s2,F2,os2,hQ,hR,hE⟩=>⟨s2,F2,os2,hQ,hR,e1.trans hE⟩
theorem Ge.trans {F F':Nat->Prop}{os os':List Own}{w w':World}(he:Ext F os w F' os' w' k){e:Exit}{a:Act}{w2:World}
  (h:Ge k Q F' os' w' e a w2):Ge k Q F os w e a w2:=
 let ⟨s2,F2,os2,hQ,hR,hE⟩:=h
 ⟨s2,F2,os2,hQ,hR,he.trans hE⟩
theorem AB {x y:Code}(h :∀K:St->Prop,(∀s,AW P k y Q s->K s)->AW P k x (NI K Q) s):AW P k (.seq x y) Q s:=by
 intro F os a w hr;refine wp_seq (wp_mono (h (AW P k y Q) (λ_ h=>h) F os a w hr) ?_);rintro e a' w' ⟨s',F',os',hQ,hR,hE⟩;cases e with
 | normal=>exact wp_mono (hQ F' os' a' w' hR) λe a2 w2 hp=>hp.trans hE
 | exit id=>exact⟨s',F',os',hQ,hR,hE⟩
 | goto l=>exact⟨s',F',os',hQ,hR,hE⟩
 | ret=>exact⟨s',F',os',hQ,hR,hE⟩
 | panic ch=>exact⟨s',F',os',hQ,hR,hE⟩
 | outgrown=>exact⟨s',F',os',hQ,hR,hE⟩
theorem AJ (h:Q .normal s):AW P k .skip Q s:=λF os _ w hr=>wp_skip ⟨s,F,os,h,hr,BN _ _ _ _⟩
theorem Ah {id:Nat}(h:Q (.exit id) s):AW P k (.exit id) Q s:=λF os _ w hr=>wp_exit ⟨s,F,os,h,hr,BN _ _ _ _⟩
theorem AM (h:Q .ret s):AW P k .ret Q s:=λF os _ w hr=>wp_ret ⟨s,F,os,h,hr,BN _ _ _ _⟩
def Nh (id:Nat)(Q:Exit->St->Prop):Exit->St->Prop
 | .exit Uz,s=>if Uz=id then Q .normal s else Q (.exit Uz) s
 | e,s=>Q e s
theorem AN {id:Nat}{c:Code}(h:AW P k c (Nh id Q) s):AW P k (.block id c) Q s:=by
 intro F os a w hr;refine wp_block (wp_mono (h F os a w hr) ?_);rintro e a' w' ⟨s',F',os',hQ,hR,hE⟩;cases e with
 | exit Uz=>
  simp only[Exit.inBlock,Nh]at hQ⊢;split at hQ<;>rename_i WJ
  ·rw[R1 WJ];exact⟨s',F',os',hQ,hR,hE⟩
  ·rw[R0 WJ];exact⟨s',F',os',hQ,hR,hE⟩
 | _=>exact⟨s',F',os',hQ,hR,hE⟩
def E9:Value->AV
 | .int k n=>.int k n
 | .bool b=>.bool b
 | .string s=>.str s
 | .pointer none=>.G7
 | .slice none 0 0=>.zc
 | .nilFunc=>.G1
 | .map none=>.mv []
 | _=>.Bl
def En:Value->AV
 | .slice none 0 0=>.sl []
 | v=>E9 v
def ofConst:Value->AV
 | .agg cs=>.agg (cs.toList.map En)
 | v=>E9 v
theorem Gj (F:Nat->Prop)(w:World)(os:List Own)(v:Value):AF F w os (E9 v) v:=by
 unfold E9;split<;>simp[AF]
theorem Fg (F:Nat->Prop)(w:World)(os:List Own):∀vs:List Value,Ad F w os (vs.map E9) vs
 | []=>by simp[Ad]
 | v::vs=>by simp only[SD,Ad];exact⟨v,vs,rfl,Gj F w os v,Fg F w os vs⟩
theorem Fy (F:Nat->Prop)(w:World)(os:List Own)(v:Value):AF F w os (En v) v:=by
 unfold En;split
 ·simp only[AF];exact⟨none,0,rfl,R3 _,by simp⟩
 ·exact Gj F w os _
theorem G0 (F:Nat->Prop)(w:World)(os:List Own):∀vs:List Value,Ad F w os (vs.map En) vs
 | []=>by simp[Ad]
 | v::vs=>by simp only[SD,Ad];exact⟨v,vs,rfl,Fy F w os v,G0 F w os vs⟩
theorem Lp (F:Nat->Prop)(w:World)(os:List Own)(v:Value):AF F w os (ofConst v) v:=by
 unfold ofConst;split
 ·simp only[AF];exact⟨_,by simp,G0 F w os _⟩
 ·exact Gj F w os v
def St.ev (s:St):Operand->AV
 | .tmp t=>s.env t
 | .const v=>ofConst v
 | .global _=>.Bl
 | .func f=>.fn f []
theorem Rel.ev {F:Nat->Prop}{os:List Own}{a:Act}{w:World}(h:Rel F os s a w)(x:Operand):AF F w os (s.ev x) (a.eval x):=by
 cases x with
 | tmp t=>exact h.env t
 | const v=>exact Lp F w os v
 | global g=>simp[St.ev,AF]
 | func f=>simp only[St.ev,AF];exact⟨[],rfl,by simp[Ad]⟩
def St.put (s:St)(d:Option Tmp)(v:AV):St:=
 match d with
 | none=>s
 | some d=>{ s with env:=CE s.env d v }
def Bo (n:Nat):Option Tmp->Bool
 | none=>true
 | some d=>d<n
theorem Rel.put {F:Nat->Prop}{os:List Own}{a:Act}{w:World}(h:Rel F os s a w){d:Option Tmp}(hd:Bo s.n d=true){v:AV}{u:Value}(hv:AF F w os v u):
  Rel F os (s.put d v) (a.put d u) w:=by
 cases d with
 | none=>exact h
 | some d=>
  simp only[Bo,SJ]at hd;refine⟨h.st,λj=>?_,by simp[Act.put,St.put,h.size],h.rows,h.inj,h.CL,h.defers⟩;simp only[St.put,CE,Act.put,So];by_cases hj:j=d
  ·subst hj;rw[R1 rfl,Array.getElem?_setIfInBounds_self_of_lt (by rw[h.size];exact hd)];exact hv
  ·rw[R0 hj,Array.getElem?_setIfInBounds_ne (Sc hj)];have:=h.env j;rwa [So]at this
theorem Rel.un {F:Nat->Prop}{os:List Own}{a:Act}{w:World}(h:Rel F os s a w){d:Option Tmp}(hd:Bo s.n d=true):Rel F os (s.put d .un) (a.put d undef) w:=
 h.put hd (by simp[AF])
def PX (v:AV)(K:Bool->Prop):Prop:=
 match v with
 | .bool b=>K b
 | _=>False
theorem AW.cond {c:Operand}{x y:Code}(h :∀K1 K2:Prop,(AW P k x Q s->K1)->(AW P k y Q s->K2)->PX (s.ev c) λb=>(b=true->K1)/\(b=false->K2)):AW P k (.cond c x y) Q s:=by
 intro F os a w hr;have h1:=h _ _ id id;have h2:=hr.ev c;generalize s.ev c=v at h1 h2;cases v<;>simp only[PX]at h1;rename_i b;simp only[AF]at h2;refine wp_cond h2 ?_;cases b
 ·exact h1.2 rfl F os a w hr
 ·exact h1.1 rfl F os a w hr
end Go.Abs
