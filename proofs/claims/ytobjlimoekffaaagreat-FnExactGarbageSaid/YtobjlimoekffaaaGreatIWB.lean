import Derived.Test.YtobjlimoekffaaaGreatGEncCToGCDefs
import Derived.Test.YtobjlimoekffaaaGreatGPlainAToIMJ
import Derived.Test.YtobjlimoekffaaaGreatIWA

namespace RC
open Go
theorem WT {l:List Int} {x:Int} (hl:l.length≤1048576) {N i:Nat} (hi:i≤l.length) (hN:l.length - i < N):Ey l x N i=some (if x∈l.drop i then Sum.inl true else Sum.inr ()):=by
 refine BM l.length (fun N i=>Ey l x N i=some (if x∈l.drop i then Sum.inl true else Sum.inr ())) ?_ ?_ hi hN
 ·intro n
  rw[Ey,if_neg (by simp[AK])];simp
 ·intro n i hi ih
  obtain⟨y,hy,_⟩:=BR hi
  rw[Ey,if_pos (by simp[AK];omega),Ak hy]
  simp only[Option.bind_some]
  rw[As (by omega) (by omega),show ((i:Int) + 1)=((i+1:Nat):Int) by omega,ih,drop_cons hy]
  by_cases e:y=x
  ·subst e;simp
  ·have e':¬ x=y:=fun h=>e h.symm
   simp[e,e']
theorem Wm {l:List Int} {x:Int} (hl:l.length≤1048576) {N:Nat} (hN:2000000≤N):J4 N l x=some (decide (x∈l)):=by
 unfold J4
 have:=WT (x:=x) hl (Nat.zero_le _) (by omega:l.length - 0 < N)
 rw[show ((0:Nat):Int)=0 from rfl,List.drop_zero] at this
 rw[this]
 by_cases h:x∈l <;> simp[h]
def ins:List Int→Int→List Int
 | [],x=>[x]
 | a :: r,x=>if x≤a then (if x < a then x :: a :: r else a :: r) else a :: ins r x
theorem Ou :∀(l:List Int) (x:Int),(ins l x).length≤l.length+1
 | [],_=>by simp[ins]
 | a :: r,x=>by
  have:=Ou r x
  simp only[ins]
  split
  ·split <;> simp
  ·simp only[List.length_cons];omega
theorem R3 :∀(l:List Int) (x y:Int),y∈ins l x↔y=x∨y∈l
 | [],x,y=>by simp[ins]
 | a :: r,x,y=>by
  have ih:=R3 r x y
  simp only[ins]
  split
  ·split
   ·simp
   ·have:x=a:=by omega
    subst this;simp
  ·simp only[List.mem_cons,ih]
   constructor
   ·rintro (h | h | h) <;> simp[h]
   ·rintro (h | h | h) <;> simp[h]
def KE:List Int→Int→Bool
 | [],_=>false
 | a :: r,x=>if x≤a then true else KE r x
def Ll (l:List Int) (x:Int):List Int:=if KE l x then ins l x else l
theorem Yw :∀(l:List Int) (x:Int),ins l x=if KE l x then Ll l x else Ll l x ++ [x]
 | [],x=>by simp[ins,KE,Ll]
 | a :: r,x=>by
  have ih:=Yw r x
  simp only[Ll,KE,ins] at ih ⊢
  by_cases h:x≤a
  ·simp[h]
  ·simp only[h,if_false] at ih ⊢
   by_cases hd:KE r x=true
   ·simp[hd]
   ·simp only[hd,if_false] at ih ⊢
    simp[ih]
theorem Qs {l:List Int} {x:Int} (hl:l.length≤1048576) {N i:Nat} (hi:i≤l.length) (hN:l.length - i < N) :∀acc:List Int,acc.length≤1048576+i→B3 l x N true (i:Int) acc=some (true,acc ++ l.drop i):=by
 refine BM l.length (fun N i=>∀acc:List Int,acc.length≤1048576+i→B3 l x N true (i:Int) acc=some (true,acc ++ l.drop i)) ?_ ?_ hi hN
 ·intro n acc _
  rw[B3,if_neg (by simp[AK])];simp
 ·intro n i hi ih acc ha
  obtain⟨y,hy,_⟩:=BR hi
  rw[B3,if_pos (by simp[AK];omega),Ak hy]
  simp only[Bool.not_true,Bool.false_eq_true,if_false,Option.bind_some]
  rw[Eh _ _ 8 (by simp;omega) (by simp;omega)]
  simp only[Option.bind_some]
  rw[As (by omega) (by omega),show ((i:Int) + 1)=((i+1:Nat):Int) by omega,ih _ (by simp;omega),drop_cons hy]
  simp
theorem S5 {l:List Int} {x:Int} (hl:l.length≤1048576) {N i:Nat} (hi:i≤l.length) (hN:l.length - i < N) :∀acc:List Int,acc.length≤i→B3 l x N false (i:Int) acc=some (KE (l.drop i) x,acc ++ Ll (l.drop i) x):=by
 refine BM l.length (fun N i=>l.length - i < N→∀acc:List Int,acc.length≤i→B3 l x N false (i:Int) acc=some (KE (l.drop i) x,acc ++ Ll (l.drop i) x)) ?_ ?_ hi hN hN
 ·intro n _ acc _
  rw[B3,if_neg (by simp[AK])];simp[KE,Ll]
 ·intro n i hi ih hf acc ha
  obtain⟨y,hy,_⟩:=BR hi
  have ih:=ih (by omega)
  rw[B3,if_pos (by simp[AK];omega),Ak hy]
  simp only[Bool.not_false,if_true,Option.bind_some]
  rw[As (n:=(i:Int) + 1) (by omega) (by omega),show ((i:Int) + 1)=((i+1:Nat):Int) by omega,drop_cons hy]
  have done:=Qs (l:=l) (x:=x) hl (N:=n) (i:=i+1) (by omega) (by omega)
  by_cases h:x≤y
  ·simp only[h,decide_true,if_true]
   by_cases h2:x < y
   ·simp only[h2,decide_true,if_true]
    rw[Eh acc [x] 8 (by simp;omega) (by simp;omega)]
    simp only[Option.bind_some]
    rw[Eh _ _ 8 (by simp;omega) (by simp;omega)]
    simp only[Option.bind_some]
    rw[done _ (by simp;omega)]
    simp[KE,Ll,ins,h,h2]
   ·simp only[h2,decide_false,Bool.false_eq_true,if_false,Option.bind_some]
    rw[Eh _ _ 8 (by simp;omega) (by simp;omega)]
    simp only[Option.bind_some]
    rw[done _ (by simp;omega)]
    simp[KE,Ll,ins,h,h2]
  ·simp only[h,decide_false,Bool.false_eq_true,if_false,Option.bind_some]
   rw[Eh _ _ 8 (by simp;omega) (by simp;omega)]
   simp only[Option.bind_some]
   rw[ih _ (by simp;omega)]
   simp only[KE,Ll,ins,h,if_false,List.append_assoc,List.singleton_append]
   cases KE (l.drop (i+1)) x <;> simp
theorem Jg {l:List Int} {x:Int} (hl:l.length≤1048576) {N:Nat} (hN:2000000≤N):FG N l x=some (ins l x):=by
 unfold FG
 have:=S5 (l:=l) (x:=x) hl (Nat.zero_le _) (by omega:l.length - 0 < N) [] (by simp)
 rw[show ((0:Nat):Int)=0 from rfl,List.drop_zero] at this
 rw[this]
 simp only[Option.bind_some,List.nil_append]
 rw[Yw]
 cases hd:KE l x with
 | true=>simp
 | false=>
  simp only[Bool.not_false,if_true,Bool.false_eq_true,if_false]
  have e:Ll l x=l:=by simp[Ll,hd]
  rw[e,Eh _ _ 8 (by simp;omega) (by simp;omega)]
  rfl
def Ir (m:Nat→Bool) (j:Nat):Nat→Bool:=fun k=>m k || decide (k=j)
theorem Xz {m:Nat→Bool} {n i:Nat} {y:Int} (h:y∈BK (mk m n i)):(i:Int)≤y:=by
 obtain⟨k,hk,rfl⟩:=List.mem_map.1 h
 simp only[mk,List.mem_filter,List.mem_range'] at hk
 omega
theorem W3 {l:List Int} {x:Int} (h :∀y∈l,x < y):ins l x=x :: l:=by
 cases l with
 | nil=>rfl
 | cons a r=>
  have:=h a (by simp)
  simp only[ins]
  rw[if_pos (by omega),if_pos this]
theorem mk_congr {m m':Nat→Bool} {n i:Nat} (h :∀k,i≤k→k < n→m k=m' k):mk m n i=mk m' n i:=by
 unfold mk
 refine List.filter_congr fun k hk=>?_
 simp only[List.mem_range'] at hk
 obtain⟨q,hq,rfl⟩:=hk
 exact h _ (by omega) (by omega)
theorem OB (a:Nat) (l:List Nat):BK (a :: l)=(a:Int) :: BK l:=rfl
theorem XR {m:Nat→Bool} {n j:Nat} (hj:j < n) :∀(d i:Nat),j - i=d→i≤j→ins (BK (mk m n i)) (j:Int)=BK (mk (Ir m j) n i)
 | 0,i,hd,hi=>by
  have:i=j:=by omega
  subst this
  rw[JV hj,JV (m:=Ir m i) hj,mk_congr (m:=Ir m i) (m':=m) (i:=i+1) (fun k h1 h2=>by
   have:k≠i:=by omega
   simp[Ir,this])]
  have ha :∀y∈BK (mk m n (i+1)),(i:Int) < y:=fun y hy=>by have:=Xz hy;omega
  have hw:Ir m i i=true:=by simp[Ir]
  rw[hw]
  cases m i with
  | true=>
   simp only[if_true,List.singleton_append,OB,ins]
   rw[if_pos (Int.le_refl _),if_neg (by omega)]
  | false=>
   simp only[Bool.false_eq_true,if_false,if_true,List.nil_append,List.singleton_append,OB]
   exact W3 ha
 | d+1,i,hd,hi=>by
  have ih:=XR (m:=m) hj d (i+1) (by omega) (by omega)
  rw[JV (by omega),JV (m:=Ir m j) (i:=i) (by omega)]
  have hw:Ir m j i=m i:=by
   have:i≠j:=by omega
   simp[Ir,this]
  rw[hw]
  cases m i with
  | true=>
   simp only[if_true,List.singleton_append,OB,ins]
   rw[if_neg (by omega),ih]
  | false=>
   simp only[Bool.false_eq_true,if_false,List.nil_append]
   exact ih
theorem RB {m:Nat→Bool} {n j:Nat} (hn:n≤1048576) (hj:j < n) {N:Nat} (hN:2000000≤N):FG N (BK (mk m n 0)) (j:Int)=some (BK (mk (Ir m j) n 0)):=by
 rw[Jg (by rw[FZ];have:=Q4 m n 0;omega) hN,XR hj j 0 (by omega) (by omega)]
def Gz (m:Nat→Bool) (l:List Int):Nat→Bool:=fun k=>m k || decide ((k:Int)∈l)
theorem OO (m:Nat→Bool):Gz m []=m:=by funext k;simp[Gz]
theorem MO (m:Nat→Bool) (j:Nat) (l:List Int):Gz m ((j:Int) :: l)=Gz (Ir m j) l:=by
 funext k
 simp only[Gz,Ir,List.mem_cons,Bool.decide_or,Bool.or_assoc]
 congr 2
 exact decide_eq_decide.2 (by omega)
end RC

