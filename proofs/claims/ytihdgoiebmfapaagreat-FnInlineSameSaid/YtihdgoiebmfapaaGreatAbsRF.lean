import Derived.Test.YtihdgoiebmfapaaGreatAbsQ
import Derived.RangeFuncIn
import Derived.RangeFuncOwn
import Derived.OrdersIn
import Derived.TacticsIn
set_option linter.all false
namespace Go.Abs
open Go
abbrev WR (l:Nat):Fence:=Fence.wide.inRound l
def Nm (o:Oper):Bool:=match o.op with|.defer _=>false|_=>true
section
variable {P : Program} {k l n : Nat} {ops : Array Oper}
theorem gl {m:Nat}{f:FuncId}{args:Array Value}{w:World}{R:Ending->World->Prop}(h:Calls P f args w R):CallsIn (WR l) m P f args w R:=(callsIn_wide (n:=m)).2 h
theorem jB {m:Nat}{row:String}{args:Array Value}{w:World}{R:Value->World->Prop}(h:Rows P row args w R):RowsIn (WR l) m P row args w R:=
 λc cs _=>let ⟨v,w',r,s⟩:=h c cs;⟨v,w',r,stepsIn_wide.2 s⟩
theorem cN {o:Oper}{Q:Exit->Act->World->Prop}(ho:Nm o=true){a:Act}{w:World}{K K':Act->World->Prop}(hK :∀a w,K a w->K' a w)(h:o.wp P a w K Q):o.wpIn (WR l) n P a w K' Q:=by
 refine⟨λ_ _=>trivial,?_⟩;rw[Oper.semAt_eq _ _ _ (by intro c hc;simp[Nm,hc]at ho)];unfold Oper.wp at h;generalize (execOp a.eval o).run P w=r at *;cases r with
 |ok x w'=>
  cases x<;>simp only[Oper.upon,Oper.uponIn]at h⊢
  case value=>exact hK _ _ h
  case skip=>exact hK _ _ h
  case defer=>exact hK _ _ h
  case enter=>exact⟨λh=>(by cases h),gl (h.mono λe w'' he=>by cases e<;>first|exact hK _ _ he|exact he)⟩
  case row=>exact⟨λh=>(by cases h),jB (h.mono λ_ _ he=>hK _ _ he)⟩
 |halt x w'=>cases x<;>simp only[Oper.upon,Oper.uponIn]at h⊢<;>exact h
theorem jx {Q:Exit->Act->World->Prop}(hQ:¬ LetsOut Q)(hd:ops.toList.all Nm=true){i:Nat}{a:Act}{w:World}{K K':Act->World->Prop}(hK :∀a w,K a w->K' a w)(h:wpOp P ops Q i K a w):wpOpIn (WR l) n P ops Q i K' a w:=by
 unfold wpOp at h;unfold wpOpIn;cases ho:ops[i]? with
 |none=>simp only[ho]at h⊢;exact hK _ _ h
 |some o=>
  simp only[ho]at h⊢;have hm:o∈ops.toList:=by
   obtain⟨h1,h2⟩:=px.1 ho;rw[<- h2];exact Array.getElem_mem_toList h1
  split
  .rename_i hw;rw[pI hw]at h;exact cN (pG.1 hd o hm) hK (h.resolve_right λq=>hQ q.2)
  .rename_i hw;rw[pJ hw]at h;exact⟨λ_ _=>trivial,hK _ _ h⟩
theorem Zs {Q:Exit->Act->World->Prop}(hQ:¬ LetsOut Q)(hd:ops.toList.all Nm=true){md:Region.Mode}:∀(f:Nat) (tm:Array Bool) (a:Act) (w:World),wpAny P md ops Q f tm a w->wpAnyIn (WR l) n P md ops Q f tm a w
 |0,_,_,_,h=>h
 |f+1,tm,a,w,h=>⟨h.1,λi hi=>jx hQ hd (λa w=>Zs hQ hd f _ a w) (h.2 i hi)⟩
theorem Sj {Q:Exit->Act->World->Prop}(hQ:¬ LetsOut Q):∀(r:List Oper),r.all Nm=true->∀(a:Act) (w:World),wpList P ops Q r a w->wpListIn (WR l) n P ops Q r a w
 | [],_,_,_,h=>h
 |o::r,hd,a,w,h=>by
  simp only[rQ,pZ]at hd;unfold wpList at h;unfold wpListIn;split
  .rename_i hw;rw[pI hw]at h;exact cN hd.1 (λa w=>Sj hQ r hd.2 a w) (h.resolve_right λq=>hQ q.2)
  .rename_i hw;rw[pJ hw]at h;exact⟨λ_ _=>trivial,Sj hQ r hd.2 _ _ h⟩
end
def Oh (P:Program)(l k:Nat)(c:Code)(Q:Exit->St->Prop)(s:St):Prop:=
 (∀s,¬ Q .outgrown s)->∀F os a w,Rel F os s a w->c.wpIn (WR l) 0 P (K0 k Q F os w) a w
section
variable {P : Program} {k l n : Nat} {ops : Array Oper} {Q : Exit -> St -> Prop} {s : St}
theorem SD {F:Nat->Prop}{os:List Own}{w:World}(h :∀s,¬ Q .outgrown s):¬ LetsOut (K0 k Q F os w):=by
 rintro⟨a,w',s',F',os',hq,_⟩;exact h s' hq
theorem SJ {c:Code}{s':St}(hw:Wk k s s')(h:Oh P l k c Q s'):Oh P l k c Q s:=λho F os a w hr=>by
 obtain⟨F1,vD,h1,e1⟩:=hw F os a w hr;exact sf (h ho F1 vD a w h1) λe _ _ ⟨s2,F2,os2,hQ,hR,hE⟩=>⟨s2,F2,os2,hQ,hR,e1.trans hE⟩
theorem Oh.seq {x y:Code}(h :∀K:St->Prop,(∀s,Oh P l k y Q s->K s)->Oh P l k x (LQ K Q) s):Oh P l k (.seq x y) Q s:=by
 intro ho F os a w hr;refine wpIn_seq (sf (h (Oh P l k y Q) (λ_ h=>h) (λs hs=>ho s hs) F os a w hr) ?_);rintro e a' w' ⟨s',F',os',hQ,hR,hE⟩;cases e with
 |normal=>exact sf (hQ ho F' os' a' w' hR) λe a2 w2 hp=>hp.trans hE
 |exit id=>exact⟨s',F',os',hQ,hR,hE⟩
 |goto l=>exact⟨s',F',os',hQ,hR,hE⟩
 |ret=>exact⟨s',F',os',hQ,hR,hE⟩
 |panic ch=>exact⟨s',F',os',hQ,hR,hE⟩
 |outgrown=>exact⟨s',F',os',hQ,hR,hE⟩
theorem Oh.block {id:Nat}{c:Code}(h:Oh P l k c (W5 id Q) s):Oh P l k (.block id c) Q s:=by
 intro ho F os a w hr;refine wpIn_block (sf (h (λs hs=>ho s hs) F os a w hr) ?_);rintro e a' w' ⟨s',F',os',hQ,hR,hE⟩;cases e with
 |exit vH=>
  simp only[Exit.inBlock,W5]at hQ⊢;split at hQ<;>rename_i xA
  .rw[pI xA];exact⟨s',F',os',hQ,hR,hE⟩
  .rw[pJ xA];exact⟨s',F',os',hQ,hR,hE⟩
 |_=>exact⟨s',F',os',hQ,hR,hE⟩
theorem Ql {id:Nat}(hd:(ops.toList.all λo=>Cy s.n o.dst)=true)(hn:ops.toList.all Nm=true)(h:AO P k ops Q [] ops.toList s):Oh P l k (.region id ops false) Q s:=by
 intro ho F os a w hr;exact wpIn_region_list (Sj (SD ho) _ hn _ _ (h (by simp) (by simp) (λo ho=>pG.1 hd o ho) F os a w hr _ λ_ _ _ hp=>hp))
theorem Oh.nN {id:Nat}(hm:P.follows .mixedOrders=true)(hn:ops.toList.all Nm=true)(h:AX P k ops Q s.n ops.size (Array.replicate ops.size false) s):Oh P l k (.region id ops true) Q s:=by
 intro ho F os a w hr;obtain⟨hr1,he1⟩:=hr.drew (k:=k);refine sf (Q:=OS k Q F os w) (wpIn_region_any hm (Zs (SD (λs hs=>by cases hs.1)) hn _ _ _ _ (h.2 F os w F os a w.drew hr1 he1))) ?_;rintro e a' w' ⟨s',F',os',hq,hR,hE⟩;exact⟨s',F',os',hq.2,hR,hE⟩
end
end Go.Abs
