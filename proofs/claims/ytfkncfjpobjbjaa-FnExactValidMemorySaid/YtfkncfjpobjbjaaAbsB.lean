import Derived.Test.YtfkncfjpobjbjaaAbsA
set_option linter.all false
namespace Go.Abs
open Go
def GM (k:Nat)(Q:Exit->St->Prop)(F:Nat->Prop)(os:List Own)(w:World):Exit->Act->World->Prop:=
 λe a' w'=>∃s' F' os',Q e s'/\Rel F' os' s' a' w'/\Ext F os w F' os' w' k
def AW (P:Program)(k:Nat)(c:Code)(Q:Exit->St->Prop)(s:St):Prop:=
 ∀F os a w,Rel F os s a w->c.wp P (GM k Q F os w) a w
def NY (K:St->Prop)(Q:Exit->St->Prop):Exit->St->Prop
 | .normal,s=>K s
 | e,s=>Q e s
def Wk (k:Nat)(s s':St):Prop:=
 ∀F os a w,Rel F os s a w->∃F' os',Rel F' os' s' a w/\Ext F os w F' os' w k
theorem Wk.refl (k:Nat)(s:St):Wk k s s:=λF os _ w h=>⟨F,os,h,BM F os w k⟩
theorem Wk.trans {k:Nat}{s s' fG:St}(h:Wk k s s')(g:Wk k s' fG):Wk k s fG:=λF os a w hr=>by
 obtain⟨F1,UQ,h1,e1⟩:=h F os a w hr;obtain⟨F2,os2,h2,e2⟩:=g F1 UQ a w h1;exact⟨F2,os2,h2,e1.trans e2⟩
variable {P : Program} {k : Nat} {Q : Exit -> St -> Prop} {s : St}
theorem AH {c:Code}{s':St}(hw:Wk k s s')(h:AW P k c Q s'):AW P k c Q s:=λF os a w hr=>by
 obtain⟨F1,UQ,h1,e1⟩:=hw F os a w hr;exact wp_mono (h F1 UQ a w h1) λe _ _ ⟨s2,F2,os2,hQ,hR,hE⟩=>⟨s2,F2,os2,hQ,hR,e1.trans hE⟩
theorem GM.trans {F F':Nat->Prop}{os os':List Own}{w w':World}(he:Ext F os w F' os' w' k){e:Exit}{a:Act}{w2:World}
  (h:GM k Q F' os' w' e a w2):GM k Q F os w e a w2:=
 let ⟨s2,F2,os2,hQ,hR,hE⟩:=h
 ⟨s2,F2,os2,hQ,hR,he.trans hE⟩
theorem AB {x y:Code}(h :∀K:St->Prop,(∀s,AW P k y Q s->K s)->AW P k x (NY K Q) s):AW P k (.seq x y) Q s:=by
 intro F os a w hr;refine wp_seq (wp_mono (h (AW P k y Q) (λ_ h=>h) F os a w hr) ?_);rintro e a' w' ⟨s',F',os',hQ,hR,hE⟩;cases e with
 | normal=>exact wp_mono (hQ F' os' a' w' hR) λe a2 w2 hp=>hp.trans hE
 | exit id=>exact⟨s',F',os',hQ,hR,hE⟩
 | goto l=>exact⟨s',F',os',hQ,hR,hE⟩
 | ret=>exact⟨s',F',os',hQ,hR,hE⟩
 | panic ch=>exact⟨s',F',os',hQ,hR,hE⟩
 | outgrown=>exact⟨s',F',os',hQ,hR,hE⟩
theorem AJ (h:Q .normal s):AW P k .skip Q s:=λF os _ w hr=>wp_skip ⟨s,F,os,h,hr,BM _ _ _ _⟩
theorem Ag {id:Nat}(h:Q (.exit id) s):AW P k (.exit id) Q s:=λF os _ w hr=>wp_exit ⟨s,F,os,h,hr,BM _ _ _ _⟩
theorem AM (h:Q .ret s):AW P k .ret Q s:=λF os _ w hr=>wp_ret ⟨s,F,os,h,hr,BM _ _ _ _⟩
def Nt (id:Nat)(Q:Exit->St->Prop):Exit->St->Prop
 | .exit Uv,s=>if Uv=id then Q .normal s else Q (.exit Uv) s
 | e,s=>Q e s
theorem AN {id:Nat}{c:Code}(h:AW P k c (Nt id Q) s):AW P k (.block id c) Q s:=by
 intro F os a w hr;refine wp_block (wp_mono (h F os a w hr) ?_);rintro e a' w' ⟨s',F',os',hQ,hR,hE⟩;cases e with
 | exit Uv=>
  simp only[Exit.inBlock,Nt]at hQ⊢;split at hQ<;>rename_i WE
  ·rw[Ry WE];exact⟨s',F',os',hQ,hR,hE⟩
  ·rw[Rx WE];exact⟨s',F',os',hQ,hR,hE⟩
 | _=>exact⟨s',F',os',hQ,hR,hE⟩
def E4:Value->AV
 | .int k n=>.int k n
 | .bool b=>.bool b
 | .string s=>.str s
 | .pointer none=>.G6
 | .slice none 0 0=>.zc
 | .nilFunc=>.Gz
 | .map none=>.mv []
 | _=>.Bk
def Eh:Value->AV
 | .slice none 0 0=>.sl []
 | v=>E4 v
def ofConst:Value->AV
 | .agg cs=>.agg (cs.toList.map Eh)
 | v=>E4 v
theorem GY (F:Nat->Prop)(w:World)(os:List Own)(v:Value):AF F w os (E4 v) v:=by
 unfold E4;split<;>simp[AF]
theorem Fm (F:Nat->Prop)(w:World)(os:List Own):∀vs:List Value,Ad F w os (vs.map E4) vs
 | []=>by simp[Ad]
 | v::vs=>by simp only[R9,Ad];exact⟨v,vs,rfl,GY F w os v,Fm F w os vs⟩
theorem Ff (F:Nat->Prop)(w:World)(os:List Own)(v:Value):AF F w os (Eh v) v:=by
 unfold Eh;split
 ·simp only[AF];exact⟨none,0,rfl,Rz _,by simp⟩
 ·exact GY F w os _
theorem G7 (F:Nat->Prop)(w:World)(os:List Own):∀vs:List Value,Ad F w os (vs.map Eh) vs
 | []=>by simp[Ad]
 | v::vs=>by simp only[R9,Ad];exact⟨v,vs,rfl,Ff F w os v,G7 F w os vs⟩
theorem K6 (F:Nat->Prop)(w:World)(os:List Own)(v:Value):AF F w os (ofConst v) v:=by
 unfold ofConst;split
 ·simp only[AF];exact⟨_,by simp,G7 F w os _⟩
 ·exact GY F w os v
def St.ev (s:St):Operand->AV
 | .tmp t=>s.env t
 | .const v=>ofConst v
 | .global _=>.Bk
 | .func f=>.fn f []
theorem Rel.ev {F:Nat->Prop}{os:List Own}{a:Act}{w:World}(h:Rel F os s a w)(x:Operand):AF F w os (s.ev x) (a.eval x):=by
 cases x with
 | tmp t=>exact h.env t
 | const v=>exact K6 F w os v
 | global g=>simp[St.ev,AF]
 | func f=>simp only[St.ev,AF];exact⟨[],rfl,by simp[Ad]⟩
def St.put (s:St)(d:Option Tmp)(v:AV):St:=
 match d with
 | none=>s
 | some d=>{ s with env:=CD s.env d v }
def Bn (n:Nat):Option Tmp->Bool
 | none=>true
 | some d=>d<n
theorem Rel.put {F:Nat->Prop}{os:List Own}{a:Act}{w:World}(h:Rel F os s a w){d:Option Tmp}(hd:Bn s.n d=true){v:AV}{u:Value}(hv:AF F w os v u):
  Rel F os (s.put d v) (a.put d u) w:=by
 cases d with
 | none=>exact h
 | some d=>
  simp only[Bn,SF]at hd;refine⟨h.st,λj=>?_,by simp[Act.put,St.put,h.size],h.rows,h.inj,h.CL,h.defers⟩;simp only[St.put,CD,Act.put,Sk];by_cases hj:j=d
  ·subst hj;rw[Ry rfl,Array.getElem?_setIfInBounds_self_of_lt (by rw[h.size];exact hd)];exact hv
  ·rw[Rx hj,Array.getElem?_setIfInBounds_ne (SY hj)];have:=h.env j;rwa [Sk]at this
theorem Rel.un {F:Nat->Prop}{os:List Own}{a:Act}{w:World}(h:Rel F os s a w){d:Option Tmp}(hd:Bn s.n d=true):Rel F os (s.put d .un) (a.put d undef) w:=
 h.put hd (by simp[AF])
def PB (v:AV)(K:Bool->Prop):Prop:=
 match v with
 | .bool b=>K b
 | _=>False
theorem AW.cond {c:Operand}{x y:Code}(h :∀K1 K2:Prop,(AW P k x Q s->K1)->(AW P k y Q s->K2)->PB (s.ev c) λb=>(b=true->K1)/\(b=false->K2)):AW P k (.cond c x y) Q s:=by
 intro F os a w hr;have h1:=h _ _ id id;have h2:=hr.ev c;generalize s.ev c=v at h1 h2;cases v<;>simp only[PB]at h1;rename_i b;simp only[AF]at h2;refine wp_cond h2 ?_;cases b
 ·exact h1.2 rfl F os a w hr
 ·exact h1.1 rfl F os a w hr
end Go.Abs
