import Derived.Test.YtccficmcdkcpnaaGreatAbsA
set_option linter.all false
namespace Go.Abs
open Go
def OY (k:Nat)(Q:Exit->St->Prop)(F:Nat->Prop)(os:List Own)(w:World):Exit->Act->World->Prop:=
 λe a' w'=>∃s' F' os',Q e s'/\Rel F' os' s' a' w'/\Ext F os w F' os' w' k
def AW (P:Program)(k:Nat)(c:Code)(Q:Exit->St->Prop)(s:St):Prop:=
 ∀F os a w,Rel F os s a w->c.wp P (OY k Q F os w) a w
def Xe (K:St->Prop)(Q:Exit->St->Prop):Exit->St->Prop
 | .normal,s=>K s
 | e,s=>Q e s
def Wk (k:Nat)(s s':St):Prop:=
 ∀F os a w,Rel F os s a w->∃F' os',Rel F' os' s' a w/\Ext F os w F' os' w k
theorem Wk.refl (k:Nat)(s:St):Wk k s s:=λF os _ w h=>⟨F,os,h,Ext.refl F os w k⟩
theorem Wk.trans {k:Nat}{s s' s'':St}(h:Wk k s s')(g:Wk k s' s''):Wk k s s'':=λF os a w hr=>by
 obtain⟨F1,sC,h1,e1⟩:=h F os a w hr;obtain⟨F2,os2,h2,e2⟩:=g F1 sC a w h1;exact⟨F2,os2,h2,e1.trans e2⟩
variable {P : Program} {k : Nat} {Q : Exit -> St -> Prop} {s : St}
theorem AW.mono {c:Code}{Q':Exit->St->Prop}(h:AW P k c Q s)(hq :∀e s,Q e s->Q' e s):AW P k c Q' s:=
 λF os a w hr=>qk (h F os a w hr) λe _ _ ⟨s',F',os',hQ,hR,hE⟩=>⟨s',F',os',hq e s' hQ,hR,hE⟩
theorem AJ {c:Code}{s':St}(hw:Wk k s s')(h:AW P k c Q s'):AW P k c Q s:=λF os a w hr=>by
 obtain⟨F1,sC,h1,e1⟩:=hw F os a w hr;exact qk (h F1 sC a w h1) λe _ _ ⟨s2,F2,os2,hQ,hR,hE⟩=>⟨s2,F2,os2,hQ,hR,e1.trans hE⟩
theorem OY.trans {F F':Nat->Prop}{os os':List Own}{w w':World}(he:Ext F os w F' os' w' k){e:Exit}{a:Act}{w2:World}
  (h:OY k Q F' os' w' e a w2):OY k Q F os w e a w2:=
 let ⟨s2,F2,os2,hQ,hR,hE⟩:=h
 ⟨s2,F2,os2,hQ,hR,he.trans hE⟩
theorem AD {x y:Code}(h :∀K:St->Prop,(∀s,AW P k y Q s->K s)->AW P k x (Xe K Q) s):AW P k (.seq x y) Q s:=by
 intro F os a w hr;refine wp_seq (qk (h (AW P k y Q) (λ_ h=>h) F os a w hr) ?_);rintro e a' w' ⟨s',F',os',hQ,hR,hE⟩;cases e with
 | normal=>exact qk (hQ F' os' a' w' hR) λe a2 w2 hp=>hp.trans hE
 | exit id=>exact⟨s',F',os',hQ,hR,hE⟩
 | goto l=>exact⟨s',F',os',hQ,hR,hE⟩
 | ret=>exact⟨s',F',os',hQ,hR,hE⟩
 | panic ch=>exact⟨s',F',os',hQ,hR,hE⟩
 | outgrown=>exact⟨s',F',os',hQ,hR,hE⟩
theorem AH (h:Q .normal s):AW P k .skip Q s:=λF os _ w hr=>wp_skip ⟨s,F,os,h,hr,Ext.refl _ _ _ _⟩
theorem Ad {id:Nat}(h:Q (.exit id) s):AW P k (.exit id) Q s:=λF os _ w hr=>wp_exit ⟨s,F,os,h,hr,Ext.refl _ _ _ _⟩
theorem BB (h:Q .ret s):AW P k .ret Q s:=λF os _ w hr=>wp_ret ⟨s,F,os,h,hr,Ext.refl _ _ _ _⟩
def bw (id:Nat)(Q:Exit->St->Prop):Exit->St->Prop
 | .exit sm,s=>if sm=id then Q .normal s else Q (.exit sm) s
 | e,s=>Q e s
theorem AK {id:Nat}{c:Code}(h:AW P k c (bw id Q) s):AW P k (.block id c) Q s:=by
 intro F os a w hr;refine wp_block (qk (h F os a w hr) ?_);rintro e a' w' ⟨s',F',os',hQ,hR,hE⟩;cases e with
 | exit sm=>
  simp only[Exit.inBlock,bw]at hQ⊢;split at hQ<;>rename_i uj
  ·rw[me uj];exact⟨s',F',os',hQ,hR,hE⟩
  ·rw[mj uj];exact⟨s',F',os',hQ,hR,hE⟩
 | _=>exact⟨s',F',os',hQ,hR,hE⟩
def Lo:Value->AV
 | .int k n=>.int k n
 | .bool b=>.bool b
 | .string s=>.str s
 | .pointer none=>.O5
 | .slice none 0 0=>.zc
 | .nilFunc=>.Po
 | _=>.FQ
def KA:Value->AV
 | .slice none 0 0=>.sl []
 | v=>Lo v
def ofConst:Value->AV
 | .agg cs=>.agg (cs.toList.map KA)
 | v=>Lo v
theorem O0 (F:Nat->Prop)(w:World)(os:List Own)(v:Value):AU F w os (Lo v) v:=by
 unfold Lo;split<;>simp[AU]
theorem OL (F:Nat->Prop)(w:World)(os:List Own):∀vs:List Value,A7 F w os (vs.map Lo) vs
 | []=>by simp[A7]
 | v::vs=>by simp only[mz,A7];exact⟨v,vs,rfl,O0 F w os v,OL F w os vs⟩
theorem Jr (F:Nat->Prop)(w:World)(os:List Own)(v:Value):AU F w os (KA v) v:=by
 unfold KA;split
 ·simp only[AU];exact⟨none,0,rfl,ml _,by simp⟩
 ·exact O0 F w os _
theorem Qy (F:Nat->Prop)(w:World)(os:List Own):∀vs:List Value,A7 F w os (vs.map KA) vs
 | []=>by simp[A7]
 | v::vs=>by simp only[mz,A7];exact⟨v,vs,rfl,Jr F w os v,Qy F w os vs⟩
theorem YU (F:Nat->Prop)(w:World)(os:List Own)(v:Value):AU F w os (ofConst v) v:=by
 unfold ofConst;split
 ·simp only[AU];exact⟨_,by simp,Qy F w os _⟩
 ·exact O0 F w os v
def St.ev (s:St):Operand->AV
 | .tmp t=>s.env t
 | .const v=>ofConst v
 | .global _=>.FQ
 | .func f=>.fn f []
theorem Rel.ev {F:Nat->Prop}{os:List Own}{a:Act}{w:World}(h:Rel F os s a w)(x:Operand):AU F w os (s.ev x) (a.eval x):=by
 cases x with
 | tmp t=>exact h.env t
 | const v=>exact YU F w os v
 | global g=>simp[St.ev,AU]
 | func f=>simp only[St.ev,AU];exact⟨[],rfl,by simp[A7]⟩
def St.put (s:St)(d:Option Tmp)(v:AV):St:=
 match d with
 | none=>s
 | some d=>{ s with env:=Ew s.env d v }
def Ce (n:Nat):Option Tmp->Bool
 | none=>true
 | some d=>d<n
theorem Rel.put {F:Nat->Prop}{os:List Own}{a:Act}{w:World}(h:Rel F os s a w){d:Option Tmp}(hd:Ce s.n d=true){v:AV}{u:Value}(hv:AU F w os v u):
  Rel F os (s.put d v) (a.put d u) w:=by
 cases d with
 | none=>exact h
 | some d=>
  simp only[Ce,mv]at hd;refine⟨h.st,λj=>?_,by simp[Act.put,St.put,h.size],h.rows,h.inj,h.FU,h.defers⟩;simp only[St.put,Ew,Act.put,oY];by_cases hj:j=d
  ·subst hj;rw[me rfl,Array.getElem?_setIfInBounds_self_of_lt (by rw[h.size];exact hd)];exact hv
  ·rw[mj hj,Array.getElem?_setIfInBounds_ne (oT hj)];have:=h.env j;rwa [oY]at this
theorem Rel.un {F:Nat->Prop}{os:List Own}{a:Act}{w:World}(h:Rel F os s a w){d:Option Tmp}(hd:Ce s.n d=true):Rel F os (s.put d .un) (a.put d undef) w:=
 h.put hd (by simp[AU])
def gF (v:AV)(K:Bool->Prop):Prop:=
 match v with
 | .bool b=>K b
 | _=>False
theorem AW.cond {c:Operand}{x y:Code}(h :∀K1 K2:Prop,(AW P k x Q s->K1)->(AW P k y Q s->K2)->gF (s.ev c) λb=>(b=true->K1)/\(b=false->K2)):AW P k (.cond c x y) Q s:=by
 intro F os a w hr;have h1:=h _ _ id id;have h2:=hr.ev c;generalize s.ev c=v at h1 h2;cases v<;>simp only[gF]at h1;rename_i b;simp only[AU]at h2;refine wp_cond h2 ?_;cases b
 ·exact h1.2 rfl F os a w hr
 ·exact h1.1 rfl F os a w hr
end Go.Abs
