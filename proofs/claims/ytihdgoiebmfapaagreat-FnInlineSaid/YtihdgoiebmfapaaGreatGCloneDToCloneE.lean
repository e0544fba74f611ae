import Derived.Test.YtihdgoiebmfapaaGreatGAbsZPToSSDefs
set_option linter.all false
namespace RC
open Go Go.Abs
theorem Jx {α:Type}{l:List α}{enc:α->List AV}(h :∀y,(enc y).all QZ=true):VK (l.map enc):=λy hy c hc=>by
 obtain⟨z,_,rfl⟩:=pS.1 hy;exact pH.1 (h z) c hc
section
variable {P : Program} {s : St} {x y : Operand} {t el : TypeId} {size bytes id g m : Nat} {zz : List AV} {xs : List (List AV)} {n : Int} {kk : IntKind}
theorem PR (he:DB P t=some ⟨el,size,bytes,zz⟩)(hx:s.ev x=.own id g m)(hy:s.ev y=.int kk n)(hr:s.st[id]?=some ⟨g,el,size,xs⟩)(h0:0<=n)(h1:n<m)(hm:m=xs.length):
  AQ P s (.indexAddr t x y) (.ptr id g n.toNat 0):=λK hk=>by
 show Is P s.st t (s.ev x) (s.ev y) K;rw[hx,hy];exact Aj _ he ⟨h0,h1,Aj _ hr ⟨rfl,rfl,by subst hm;simpa using hk⟩⟩
end
end RC
namespace RC
open Go Go.Abs
def mix {α:Type}(e1 e2:α->List AV)(k:Nat)(l:List α):List (List AV):=(l.take k).map e1++(l.drop k).map e2
section
variable {α : Type} {e1 e2 : α -> List AV} {k : Nat} {l : List α}
theorem HI:(mix e1 e2 k l).length=l.length:=by simp[mix];omega
theorem Zd:mix e1 e2 0 l=l.map e2:=by simp[mix]
theorem Za (h:l.length<=k):mix e1 e2 k l=l.map e1:=by
 simp[mix,qJ h,rT h]
theorem YN {c:α}(h:l[k]?=some c):(mix e1 e2 k l)[k]?=some (e2 c):=by
 obtain⟨hk,rfl⟩:=pB.1 h;unfold mix;rw[pO (by simp;omega)];simp only[pR,rQ,sM (Nat.le_of_lt hk),qy,pC,qI,qp,pG hk,qG]
theorem cE {c d:α}(h:l[k]?=some c):(mix e1 e2 k l).set k (e1 d)=mix e1 e2 (k+1) (l.set k d):=by
 obtain⟨hk,rfl⟩:=pB.1 h;unfold mix;rw[sV _ _ (by simp;omega)];simp only[pR,rQ,sM (Nat.le_of_lt hk),qy];rw[List.drop_eq_getElem_cons hk,pd,sO];rw[List.take_add_one,se (pM k),List.drop_set_of_lt (by omega)];simp[hk]
theorem Uj (h1 :∀y,(e1 y).all E6=true)(h2 :∀y,(e2 y).all E6=true):DG (mix e1 e2 k l):=λx hx c hc=>by
 unfold mix at hx;rcases pY.1 hx with h|h
 .obtain⟨y,_,rfl⟩:=pS.1 h;exact pH.1 (h1 y) c hc
 .obtain⟨y,_,rfl⟩:=pS.1 h;exact pH.1 (h2 y) c hc
end
theorem Pg {sel:List Nat}{g el sz:Nat}{xs:List (List AV)}(h:DG xs):Cm sel ⟨g,el,sz,xs⟩=⟨g,el,sz,xs⟩:=by
 simp only[Cm];congr 1;refine (ph (g:=id) λx hx=>?_).trans (qo _);refine (ph (g:=id) λc hc=>?_).trans (qo _);exact OH (h x hx c hc)
theorem cQ {sel:List Nat}{g el sz i:Nat}{xs:List (List AV)}{x:List AV}(h:DG xs)(hx:x.map (Ja sel)=x):Cm sel ⟨g,el,sz,xs.set i x⟩=⟨g,el,sz,xs.set i x⟩:=by
 have h1:=Pg (sel:=sel) (g:=g) (el:=el) (sz:=sz) h;simp only[Cm,Row.mk.injEq,true_and]at h1⊢;rw[rO,h1,hx]
theorem XM {n:Nat}{e:Nat->AV}{st st':List Row}{L:List (Nat×AV)}(sel:List Nat)(vt:sel.Nodup)(uV:sel.all (·<st.length)=true)(hp:CE st sel=st')(hr :∀row∈st',Cm sel row=row)(h:ME (λt=>Jk sel (e t)) L):
  Wk 0 ⟨n,e,st⟩ ⟨n,AP L,st'⟩:=λF os a w hrel=>by
 have hle:=O8 hrel;refine X8 sel rfl vt uV (by rw[hp];exact (ph hr).trans (qo _)) (λrow tw=>?_) h F os a w hrel;rw[<- hp]at tw;obtain⟨i,_,hi⟩:=qh.1 tw;exact hle row (oz hi)
end RC
