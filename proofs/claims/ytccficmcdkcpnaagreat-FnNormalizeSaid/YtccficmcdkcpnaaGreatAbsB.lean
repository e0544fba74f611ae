import Derived.Test.YtccficmcdkcpnaaGreatAbsA
set_option linter.all false
namespace Go.Abs
open Go
def Mk (k:Nat)(Q:Exit->St->Prop)(F:Nat->Prop)(os:List Own)(w:World):Exit->Act->World->Prop:=
 λe a' w'=>∃s' F' os',Q e s'/\Rel F' os' s' a' w'/\Ext F os w F' os' w' k
def AW (P:Program)(k:Nat)(c:Code)(Q:Exit->St->Prop)(s:St):Prop:=
 ∀F os a w,Rel F os s a w->c.wp P (Mk k Q F os w) a w
def Ro (K:St->Prop)(Q:Exit->St->Prop):Exit->St->Prop
 | .normal,s=>K s
 | e,s=>Q e s
def Wk (k:Nat)(s s':St):Prop:=
 ∀F os a w,Rel F os s a w->∃F' os',Rel F' os' s' a w/\Ext F os w F' os' w k
theorem Wk.refl (k:Nat)(s:St):Wk k s s:=λF os _ w h=>⟨F,os,h,Ext.refl F os w k⟩
theorem Wk.trans {k:Nat}{s s' s'':St}(h:Wk k s s')(g:Wk k s' s''):Wk k s s'':=λF os a w hr=>by
 obtain⟨F1,vo,h1,e1⟩:=h F os a w hr;obtain⟨F2,os2,h2,e2⟩:=g F1 vo a w h1;exact⟨F2,os2,h2,e1.trans e2⟩
variable {P : Program} {k : Nat} {Q : Exit -> St -> Prop} {s : St}
theorem AW.mono {c:Code}{Q':Exit->St->Prop}(h:AW P k c Q s)(hq :∀e s,Q e s->Q' e s):AW P k c Q' s:=
 λF os a w hr=>tu (h F os a w hr) λe _ _ ⟨s',F',os',hQ,hR,hE⟩=>⟨s',F',os',hq e s' hQ,hR,hE⟩
theorem AF {c:Code}{s':St}(hw:Wk k s s')(h:AW P k c Q s'):AW P k c Q s:=λF os a w hr=>by
 obtain⟨F1,vo,h1,e1⟩:=hw F os a w hr;exact tu (h F1 vo a w h1) λe _ _ ⟨s2,F2,os2,hQ,hR,hE⟩=>⟨s2,F2,os2,hQ,hR,e1.trans hE⟩
theorem Mk.trans {F F':Nat->Prop}{os os':List Own}{w w':World}(he:Ext F os w F' os' w' k){e:Exit}{a:Act}{w2:World}
  (h:Mk k Q F' os' w' e a w2):Mk k Q F os w e a w2:=
 let ⟨s2,F2,os2,hQ,hR,hE⟩:=h
 ⟨s2,F2,os2,hQ,hR,he.trans hE⟩
theorem AD {x y:Code}(h :∀K:St->Prop,(∀s,AW P k y Q s->K s)->AW P k x (Ro K Q) s):AW P k (.seq x y) Q s:=by
 intro F os a w hr;refine wp_seq (tu (h (AW P k y Q) (λ_ h=>h) F os a w hr) ?_);rintro e a' w' ⟨s',F',os',hQ,hR,hE⟩;cases e with
 | normal=>exact tu (hQ F' os' a' w' hR) λe a2 w2 hp=>hp.trans hE
 | exit id=>exact⟨s',F',os',hQ,hR,hE⟩
 | goto l=>exact⟨s',F',os',hQ,hR,hE⟩
 | ret=>exact⟨s',F',os',hQ,hR,hE⟩
 | panic ch=>exact⟨s',F',os',hQ,hR,hE⟩
 | outgrown=>exact⟨s',F',os',hQ,hR,hE⟩
theorem AH (h:Q .normal s):AW P k .skip Q s:=λF os _ w hr=>wp_skip ⟨s,F,os,h,hr,Ext.refl _ _ _ _⟩
theorem As {id:Nat}(h:Q (.exit id) s):AW P k (.exit id) Q s:=λF os _ w hr=>wp_exit ⟨s,F,os,h,hr,Ext.refl _ _ _ _⟩
theorem Ap (h:Q .ret s):AW P k .ret Q s:=λF os _ w hr=>wp_ret ⟨s,F,os,h,hr,Ext.refl _ _ _ _⟩
def gk (id:Nat)(Q:Exit->St->Prop):Exit->St->Prop
 | .exit vr,s=>if vr=id then Q .normal s else Q (.exit vr) s
 | e,s=>Q e s
theorem AJ {id:Nat}{c:Code}(h:AW P k c (gk id Q) s):AW P k (.block id c) Q s:=by
 intro F os a w hr;refine wp_block (tu (h F os a w hr) ?_);rintro e a' w' ⟨s',F',os',hQ,hR,hE⟩;cases e with
 | exit vr=>
  simp only[Exit.inBlock,gk]at hQ⊢;split at hQ<;>rename_i yV
  ·rw[qF yV];exact⟨s',F',os',hQ,hR,hE⟩
  ·rw[qG yV];exact⟨s',F',os',hQ,hR,hE⟩
 | _=>exact⟨s',F',os',hQ,hR,hE⟩
def PK:Value->AV
 | .int k n=>.int k n
 | .bool b=>.bool b
 | .string s=>.str s
 | .pointer none=>.R3
 | .slice none 0 0=>.zc
 | .nilFunc=>.Rl
 | _=>.FZ
def OX:Value->AV
 | .slice none 0 0=>.sl []
 | v=>PK v
def ofConst:Value->AV
 | .agg cs=>.agg (cs.toList.map OX)
 | v=>PK v
theorem Ry (F:Nat->Prop)(w:World)(os:List Own)(v:Value):Ac F w os (PK v) v:=by
 unfold PK;split<;>simp[Ac]
theorem Qy (F:Nat->Prop)(w:World)(os:List Own):∀vs:List Value,Bw F w os (vs.map PK) vs
 | []=>by simp[Bw]
 | v::vs=>by simp only[qj,Bw];exact⟨v,vs,rfl,Ry F w os v,Qy F w os vs⟩
theorem OI (F:Nat->Prop)(w:World)(os:List Own)(v:Value):Ac F w os (OX v) v:=by
 unfold OX;split
 ·simp only[Ac];exact⟨none,0,rfl,qU _,by simp⟩
 ·exact Ry F w os _
theorem TQ (F:Nat->Prop)(w:World)(os:List Own):∀vs:List Value,Bw F w os (vs.map OX) vs
 | []=>by simp[Bw]
 | v::vs=>by simp only[qj,Bw];exact⟨v,vs,rfl,OI F w os v,TQ F w os vs⟩
theorem Z9 (F:Nat->Prop)(w:World)(os:List Own)(v:Value):Ac F w os (ofConst v) v:=by
 unfold ofConst;split
 ·simp only[Ac];exact⟨_,by simp,TQ F w os _⟩
 ·exact Ry F w os v
def St.ev (s:St):Operand->AV
 | .tmp t=>s.env t
 | .const v=>ofConst v
 | .global _=>.FZ
 | .func f=>.fn f []
theorem Rel.ev {F:Nat->Prop}{os:List Own}{a:Act}{w:World}(h:Rel F os s a w)(x:Operand):Ac F w os (s.ev x) (a.eval x):=by
 cases x with
 | tmp t=>exact h.env t
 | const v=>exact Z9 F w os v
 | global g=>simp[St.ev,Ac]
 | func f=>simp only[St.ev,Ac];exact⟨[],rfl,by simp[Bw]⟩
def St.put (s:St)(d:Option Tmp)(v:AV):St:=
 match d with
 | none=>s
 | some d=>{ s with env:=Dr s.env d v }
def DG (n:Nat):Option Tmp->Bool
 | none=>true
 | some d=>d<n
theorem Rel.put {F:Nat->Prop}{os:List Own}{a:Act}{w:World}(h:Rel F os s a w){d:Option Tmp}(hd:DG s.n d=true){v:AV}{u:Value}(hv:Ac F w os v u):
  Rel F os (s.put d v) (a.put d u) w:=by
 cases d with
 | none=>exact h
 | some d=>
  simp only[DG,qJ]at hd;refine⟨h.st,λj=>?_,by simp[Act.put,St.put,h.size],h.rows,h.inj,h.HO,h.defers⟩;simp only[St.put,Dr,Act.put,rq];by_cases hj:j=d
  ·subst hj;rw[qF rfl,Array.getElem?_setIfInBounds_self_of_lt (by rw[h.size];exact hd)];exact hv
  ·rw[qG hj,Array.getElem?_setIfInBounds_ne (rX hj)];have:=h.env j;rwa [rq]at this
theorem Rel.un {F:Nat->Prop}{os:List Own}{a:Act}{w:World}(h:Rel F os s a w){d:Option Tmp}(hd:DG s.n d=true):Rel F os (s.put d .un) (a.put d undef) w:=
 h.put hd (by simp[Ac])
def lE (v:AV)(K:Bool->Prop):Prop:=
 match v with
 | .bool b=>K b
 | _=>False
theorem AW.cond {c:Operand}{x y:Code}(h :∀K1 K2:Prop,(AW P k x Q s->K1)->(AW P k y Q s->K2)->lE (s.ev c) λb=>(b=true->K1)/\(b=false->K2)):AW P k (.cond c x y) Q s:=by
 intro F os a w hr;have h1:=h _ _ id id;have h2:=hr.ev c;generalize s.ev c=v at h1 h2;cases v<;>simp only[lE]at h1;rename_i b;simp only[Ac]at h2;refine wp_cond h2 ?_;cases b
 ·exact h1.2 rfl F os a w hr
 ·exact h1.1 rfl F os a w hr
end Go.Abs
