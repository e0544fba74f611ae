import Derived.Test.YtihdgoiebmfapaaGreatGAbsZPToSSDefs
set_option linter.all false
namespace RC
open Go Go.Abs
theorem J3 {α:Type}{l:List α}{enc:α->List AV}(h :∀y,(enc y).all QX=true):Up (l.map enc):=λy hy c hc=>by
 obtain⟨z,_,rfl⟩:=pQ.1 hy;exact pG.1 (h z) c hc
section
variable {P : Program} {s : St} {x y : Operand} {t el : TypeId} {size bytes id g m : Nat} {zz : List AV} {xs : List (List AV)} {n : Int} {kk : IntKind}
theorem PC (he:DB P t=some ⟨el,size,bytes,zz⟩)(hx:s.ev x=.own id g m)(hy:s.ev y=.int kk n)(hr:s.st[id]?=some ⟨g,el,size,xs⟩)(h0:0<=n)(h1:n<m)(hm:m=xs.length):
  AQ P s (.indexAddr t x y) (.ptr id g n.toNat 0):=λK hk=>by
 show It P s.st t (s.ev x) (s.ev y) K;rw[hx,hy];exact Ak _ he ⟨h0,h1,Ak _ hr ⟨rfl,rfl,by subst hm;simpa using hk⟩⟩
end
end RC
namespace RC
open Go Go.Abs
def mix {α:Type}(e1 e2:α->List AV)(k:Nat)(l:List α):List (List AV):=(l.take k).map e1++(l.drop k).map e2
section
variable {α : Type} {e1 e2 : α -> List AV} {k : Nat} {l : List α}
theorem HI:(mix e1 e2 k l).length=l.length:=by simp[mix];omega
theorem Za:mix e1 e2 0 l=l.map e2:=by simp[mix]
theorem Zh (h:l.length<=k):mix e1 e2 k l=l.map e1:=by
 simp[mix,qI h,rS h]
theorem YL {c:α}(h:l[k]?=some c):(mix e1 e2 k l)[k]?=some (e2 c):=by
 obtain⟨hk,rfl⟩:=pA.1 h;unfold mix;rw[pN (by simp;omega)];simp only[pR,rP,sL (Nat.le_of_lt hk),qx,pB,qH,qo,pF hk,qF]
theorem cr {c d:α}(h:l[k]?=some c):(mix e1 e2 k l).set k (e1 d)=mix e1 e2 (k+1) (l.set k d):=by
 obtain⟨hk,rfl⟩:=pA.1 h;unfold mix;rw[sU _ _ (by simp;omega)];simp only[pR,rP,sL (Nat.le_of_lt hk),qx];rw[List.drop_eq_getElem_cons hk,pc,sN];rw[List.take_add_one,sd (pL k),List.drop_set_of_lt (by omega)];simp[hk]
theorem Ue (h1 :∀y,(e1 y).all E6=true)(h2 :∀y,(e2 y).all E6=true):DF (mix e1 e2 k l):=λx hx c hc=>by
 unfold mix at hx;rcases pX.1 hx with h|h
 .obtain⟨y,_,rfl⟩:=pQ.1 h;exact pG.1 (h1 y) c hc
 .obtain⟨y,_,rfl⟩:=pQ.1 h;exact pG.1 (h2 y) c hc
end
theorem PJ {sel:List Nat}{g el sz:Nat}{xs:List (List AV)}(h:DF xs):Cm sel ⟨g,el,sz,xs⟩=⟨g,el,sz,xs⟩:=by
 simp only[Cm];congr 1;refine (pf (g:=id) λx hx=>?_).trans (qn _);refine (pf (g:=id) λc hc=>?_).trans (qn _);exact OK (h x hx c hc)
theorem cH {sel:List Nat}{g el sz i:Nat}{xs:List (List AV)}{x:List AV}(h:DF xs)(hx:x.map (Jg sel)=x):Cm sel ⟨g,el,sz,xs.set i x⟩=⟨g,el,sz,xs.set i x⟩:=by
 have h1:=PJ (sel:=sel) (g:=g) (el:=el) (sz:=sz) h;simp only[Cm,Row.mk.injEq,true_and]at h1⊢;rw[rN,h1,hx]
theorem XK {n:Nat}{e:Nat->AV}{st st':List Row}{L:List (Nat×AV)}(sel:List Nat)(vu:sel.Nodup)(uU:sel.all (·<st.length)=true)(hp:CE st sel=st')(hr :∀row∈st',Cm sel row=row)(h:ME (λt=>Jn sel (e t)) L):
  Wk 0 ⟨n,e,st⟩ ⟨n,AP L,st'⟩:=λF os a w hrel=>by
 have hle:=Og hrel;refine X5 sel rfl vu uU (by rw[hp];exact (pf hr).trans (qn _)) (λrow tv=>?_) h F os a w hrel;rw[<- hp]at tv;obtain⟨i,_,hi⟩:=qg.1 tv;exact hle row (ov hi)
end RC
