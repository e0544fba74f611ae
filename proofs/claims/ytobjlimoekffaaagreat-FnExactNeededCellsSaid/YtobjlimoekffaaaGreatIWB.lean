import Derived.Test.YtobjlimoekffaaaGreatGEncCToNCDefs
import Derived.Test.YtobjlimoekffaaaGreatGPlainAToIMJ
import Derived.Test.YtobjlimoekffaaaGreatIWA

namespace RC
open Go
def ins:List Int→Int→List Int
 | [],x=>[x]
 | a :: r,x=>if x≤a then (if x < a then x :: a :: r else a :: r) else a :: ins r x
theorem OQ :∀(l:List Int) (x:Int),(ins l x).length≤l.length+1
 | [],_=>by simp[ins]
 | a :: r,x=>by
  have:=OQ r x
  simp only[ins]
  split
  ·split <;> simp
  ·simp only[List.length_cons];omega
theorem RM :∀(l:List Int) (x y:Int),y∈ins l x↔y=x∨y∈l
 | [],x,y=>by simp[ins]
 | a :: r,x,y=>by
  have ih:=RM r x y
  simp only[ins]
  split
  ·split
   ·simp
   ·have:x=a:=by omega
    subst this;simp
  ·simp only[List.mem_cons,ih]
   constructor
   ·rintro (h | h | h) <;> simp[h]
   ·rintro (h | h | h) <;> simp[h]
def KR:List Int→Int→Bool
 | [],_=>false
 | a :: r,x=>if x≤a then true else KR r x
def Ll (l:List Int) (x:Int):List Int:=if KR l x then ins l x else l
theorem YZ :∀(l:List Int) (x:Int),ins l x=if KR l x then Ll l x else Ll l x ++ [x]
 | [],x=>by simp[ins,KR,Ll]
 | a :: r,x=>by
  have ih:=YZ r x
  simp only[Ll,KR,ins] at ih ⊢
  by_cases h:x≤a
  ·simp[h]
  ·simp only[h,if_false] at ih ⊢
   by_cases hd:KR r x=true
   ·simp[hd]
   ·simp only[hd,if_false] at ih ⊢
    simp[ih]
theorem QW {l:List Int} {x:Int} (hl:l.length≤1048576) {N i:Nat} (hi:i≤l.length) (hN:l.length - i < N) :∀acc:List Int,acc.length≤1048576+i→B5 l x N true (i:Int) acc=some (true,acc ++ l.drop i):=by
 refine BN l.length (fun N i=>∀acc:List Int,acc.length≤1048576+i→B5 l x N true (i:Int) acc=some (true,acc ++ l.drop i)) ?_ ?_ hi hN
 ·intro n acc _
  rw[B5,if_neg (by simp[AK])];simp
 ·intro n i hi ih acc ha
  obtain⟨y,hy,_⟩:=BS hi
  rw[B5,if_pos (by simp[AK];omega),Ai hy]
  simp only[Bool.not_true,Bool.false_eq_true,if_false,Option.bind_some]
  rw[Er _ _ 8 (by simp;omega) (by simp;omega)]
  simp only[Option.bind_some]
  rw[Au (by omega) (by omega),show ((i:Int) + 1)=((i+1:Nat):Int) by omega,ih _ (by simp;omega),drop_cons hy]
  simp
theorem Sc {l:List Int} {x:Int} (hl:l.length≤1048576) {N i:Nat} (hi:i≤l.length) (hN:l.length - i < N) :∀acc:List Int,acc.length≤i→B5 l x N false (i:Int) acc=some (KR (l.drop i) x,acc ++ Ll (l.drop i) x):=by
 refine BN l.length (fun N i=>l.length - i < N→∀acc:List Int,acc.length≤i→B5 l x N false (i:Int) acc=some (KR (l.drop i) x,acc ++ Ll (l.drop i) x)) ?_ ?_ hi hN hN
 ·intro n _ acc _
  rw[B5,if_neg (by simp[AK])];simp[KR,Ll]
 ·intro n i hi ih hf acc ha
  obtain⟨y,hy,_⟩:=BS hi
  have ih:=ih (by omega)
  rw[B5,if_pos (by simp[AK];omega),Ai hy]
  simp only[Bool.not_false,if_true,Option.bind_some]
  rw[Au (n:=(i:Int) + 1) (by omega) (by omega),show ((i:Int) + 1)=((i+1:Nat):Int) by omega,drop_cons hy]
  have done:=QW (l:=l) (x:=x) hl (N:=n) (i:=i+1) (by omega) (by omega)
  by_cases h:x≤y
  ·simp only[h,decide_true,if_true]
   by_cases h2:x < y
   ·simp only[h2,decide_true,if_true]
    rw[Er acc [x] 8 (by simp;omega) (by simp;omega)]
    simp only[Option.bind_some]
    rw[Er _ _ 8 (by simp;omega) (by simp;omega)]
    simp only[Option.bind_some]
    rw[done _ (by simp;omega)]
    simp[KR,Ll,ins,h,h2]
   ·simp only[h2,decide_false,Bool.false_eq_true,if_false,Option.bind_some]
    rw[Er _ _ 8 (by simp;omega) (by simp;omega)]
    simp only[Option.bind_some]
    rw[done _ (by simp;omega)]
    simp[KR,Ll,ins,h,h2]
  ·simp only[h,decide_false,Bool.false_eq_true,if_false,Option.bind_some]
   rw[Er _ _ 8 (by simp;omega) (by simp;omega)]
   simp only[Option.bind_some]
   rw[ih _ (by simp;omega)]
   simp only[KR,Ll,ins,h,if_false,List.append_assoc,List.singleton_append]
   cases KR (l.drop (i+1)) x <;> simp
theorem JY {l:List Int} {x:Int} (hl:l.length≤1048576) {N:Nat} (hN:2000000≤N):FB N l x=some (ins l x):=by
 unfold FB
 have:=Sc (l:=l) (x:=x) hl (Nat.zero_le _) (by omega:l.length - 0 < N) [] (by simp)
 rw[show ((0:Nat):Int)=0 from rfl,List.drop_zero] at this
 rw[this]
 simp only[Option.bind_some,List.nil_append]
 rw[YZ]
 cases hd:KR l x with
 | true=>simp
 | false=>
  simp only[Bool.not_false,if_true,Bool.false_eq_true,if_false]
  have e:Ll l x=l:=by simp[Ll,hd]
  rw[e,Er _ _ 8 (by simp;omega) (by simp;omega)]
  rfl
def Im (m:Nat→Bool) (j:Nat):Nat→Bool:=fun k=>m k || decide (k=j)
theorem Xb {m:Nat→Bool} {n i:Nat} {y:Int} (h:y∈BO (mk m n i)):(i:Int)≤y:=by
 obtain⟨k,hk,rfl⟩:=List.mem_map.1 h
 simp only[mk,List.mem_filter,List.mem_range'] at hk
 omega
theorem Vp {l:List Int} {x:Int} (h :∀y∈l,x < y):ins l x=x :: l:=by
 cases l with
 | nil=>rfl
 | cons a r=>
  have:=h a (by simp)
  simp only[ins]
  rw[if_pos (by omega),if_pos this]
theorem mk_congr {m m':Nat→Bool} {n i:Nat} (h :∀k,i≤k→k < n→m k=m' k):mk m n i=mk m' n i:=by
 unfold mk
 refine List.filter_congr fun k hk=>?_
 simp only[List.mem_range'] at hk
 obtain⟨q,hq,rfl⟩:=hk
 exact h _ (by omega) (by omega)
theorem Na (a:Nat) (l:List Nat):BO (a :: l)=(a:Int) :: BO l:=rfl
theorem W1 {m:Nat→Bool} {n j:Nat} (hj:j < n) :∀(d i:Nat),j - i=d→i≤j→ins (BO (mk m n i)) (j:Int)=BO (mk (Im m j) n i)
 | 0,i,hd,hi=>by
  have:i=j:=by omega
  subst this
  rw[LD hj,LD (m:=Im m i) hj,mk_congr (m:=Im m i) (m':=m) (i:=i+1) (fun k h1 h2=>by
   have:k≠i:=by omega
   simp[Im,this])]
  have ha :∀y∈BO (mk m n (i+1)),(i:Int) < y:=fun y hy=>by have:=Xb hy;omega
  have hw:Im m i i=true:=by simp[Im]
  rw[hw]
  cases m i with
  | true=>
   simp only[if_true,List.singleton_append,Na,ins]
   rw[if_pos (Int.le_refl _),if_neg (by omega)]
  | false=>
   simp only[Bool.false_eq_true,if_false,if_true,List.nil_append,List.singleton_append,Na]
   exact Vp ha
 | d+1,i,hd,hi=>by
  have ih:=W1 (m:=m) hj d (i+1) (by omega) (by omega)
  rw[LD (by omega),LD (m:=Im m j) (i:=i) (by omega)]
  have hw:Im m j i=m i:=by
   have:i≠j:=by omega
   simp[Im,this]
  rw[hw]
  cases m i with
  | true=>
   simp only[if_true,List.singleton_append,Na,ins]
   rw[if_neg (by omega),ih]
  | false=>
   simp only[Bool.false_eq_true,if_false,List.nil_append]
   exact ih
theorem Qx {m:Nat→Bool} {n j:Nat} (hn:n≤1048576) (hj:j < n) {N:Nat} (hN:2000000≤N):FB N (BO (mk m n 0)) (j:Int)=some (BO (mk (Im m j) n 0)):=by
 rw[JY (by rw[Iy];have:=Tk m n 0;omega) hN,W1 hj j 0 (by omega) (by omega)]
def Gv (m:Nat→Bool) (l:List Int):Nat→Bool:=fun k=>m k || decide ((k:Int)∈l)
theorem Nm (m:Nat→Bool):Gv m []=m:=by funext k;simp[Gv]
theorem L3 (m:Nat→Bool) (j:Nat) (l:List Int):Gv m ((j:Int) :: l)=Gv (Im m j) l:=by
 funext k
 simp only[Gv,Im,List.mem_cons,Bool.decide_or,Bool.or_assoc]
 congr 2
 exact decide_eq_decide.2 (by omega)
end RC

