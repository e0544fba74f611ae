import Derived.Test.YtihdgoiebmfapaaGreatGAbsZPToSSDefs
set_option linter.all false
namespace RC
open Go Go.Abs
theorem Li {α:Type}{l:List α}{enc:α->List AV}(h :∀y,(enc y).all Og=true):R9 (l.map enc):=λy hy c hc=>by
 obtain⟨z,_,rfl⟩:=gC.1 hy;exact fk.1 (h z) c hc
section
variable {P : Program} {s : St} {x y : Operand} {t el : TypeId} {size bytes id g m : Nat} {zz : List AV} {xs : List (List AV)} {n : Int} {kk : IntKind}
theorem Nd (he:Dt P t=some ⟨el,size,bytes,zz⟩)(hx:s.ev x=.own id g m)(hy:s.ev y=.int kk n)(hr:s.st[id]?=some ⟨g,el,size,xs⟩)(h0:0<=n)(h1:n<m)(hm:m=xs.length):
  AQ P s (.indexAddr t x y) (.ptr id g n.toNat 0):=λK hk=>by
 show Hr P s.st t (s.ev x) (s.ev y) K;rw[hx,hy];exact Am _ he ⟨h0,h1,Am _ hr ⟨rfl,rfl,by subst hm;simpa using hk⟩⟩
end
end RC
namespace RC
open Go Go.Abs
def mix {α:Type}(e1 e2:α->List AV)(k:Nat)(l:List α):List (List AV):=(l.take k).map e1++(l.drop k).map e2
section
variable {α : Type} {e1 e2 : α -> List AV} {k : Nat} {l : List α}
theorem GN:(mix e1 e2 k l).length=l.length:=by simp[mix];omega
theorem Vn:mix e1 e2 0 l=l.map e2:=by simp[mix]
theorem Vo (h:l.length<=k):mix e1 e2 k l=l.map e1:=by
 simp[mix,gx h,iy h]
theorem Tb {c:α}(h:l[k]?=some c):(mix e1 e2 k l)[k]?=some (e2 c):=by
 obtain⟨hk,rfl⟩:=fe.1 h;unfold mix;rw[fw (by simp;omega)];simp only[gI,iz,ju (Nat.le_of_lt hk),iS,fg,gh,jJ,fm hk,gu]
theorem Wu {c d:α}(h:l[k]?=some c):(mix e1 e2 k l).set k (e1 d)=mix e1 e2 (k+1) (l.set k d):=by
 obtain⟨hk,rfl⟩:=fe.1 h;unfold mix;rw[jo _ _ (by simp;omega)];simp only[gI,iz,ju (Nat.le_of_lt hk),iS];rw[List.drop_eq_getElem_cons hk,gP,jc];rw[List.take_add_one,jw (gA k),List.drop_set_of_lt (by omega)];simp[hk]
theorem SG (h1 :∀y,(e1 y).all EY=true)(h2 :∀y,(e2 y).all EY=true):Cp (mix e1 e2 k l):=λx hx c hc=>by
 unfold mix at hx;rcases gS.1 hx with h|h
 ·obtain⟨y,_,rfl⟩:=gC.1 h;exact fk.1 (h1 y) c hc
 ·obtain⟨y,_,rfl⟩:=gC.1 h;exact fk.1 (h2 y) c hc
end
theorem Nc {sel:List Nat}{g el sz:Nat}{xs:List (List AV)}(h:Cp xs):Cc sel ⟨g,el,sz,xs⟩=⟨g,el,sz,xs⟩:=by
 simp only[Cc];congr 1;refine (gO (g:=id) λx hx=>?_).trans (hZ _);refine (gO (g:=id) λc hc=>?_).trans (hZ _);exact KZ (h x hx c hc)
theorem Xc {sel:List Nat}{g el sz i:Nat}{xs:List (List AV)}{x:List AV}(h:Cp xs)(hx:x.map (JE sel)=x):Cc sel ⟨g,el,sz,xs.set i x⟩=⟨g,el,sz,xs.set i x⟩:=by
 have h1:=Nc (sel:=sel) (g:=g) (el:=el) (sz:=sz) h;simp only[Cc,Row.mk.injEq,true_and]at h1⊢;rw[iX,h1,hx]
theorem UB {n:Nat}{e:Nat->AV}{st st':List Row}{L:List (Nat×AV)}(sel:List Nat)(mh:sel.Nodup)(lh:sel.all (·<st.length)=true)(hp:CT st sel=st')(hr :∀row∈st',Cc sel row=row)(h:ME (λt=>Je sel (e t)) L):
  Wk 0 ⟨n,e,st⟩ ⟨n,Aa L,st'⟩:=λF os a w ly=>by
 have hle:=LY ly;refine QS sel rfl mh lh (by rw[hp];exact (gO hr).trans (hZ _)) (λrow lQ=>?_) h F os a w ly;rw[<- hp]at lQ;obtain⟨i,_,hi⟩:=hU.1 lQ;exact hle row (fc hi)
end RC
