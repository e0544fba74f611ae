import Derived.Test.YtobjlimoekffaaaGreatGPlainAToIMJ
import Derived.Test.YtobjlimoekffaaaGreatGEncCToNCDefs

namespace RC
open Go
def fz (f:Ah):Nat:=f.Ab.length+f.own.length+f.held.length
def J4 (s:Ay):Nat:=s.out.length+CM s.heap+(s.AT.length+(s.AT.map fz).sum)
theorem T1 {h:List Cell} (H:W8 h) {left:Int} (h0:0≤left) (h1:left≤1048576) {N:Nat} (hN:2000000≤N):Hm N h left=some (ND left (CM h)):=by
 unfold Hm
 have hlen:=H.2
 rw[AK,Au (by omega) (by omega)]
 have hf:Fy h=(h.map (fun c=>c.fields.length)).sum:=rfl
 by_cases h2:left - (h.length:Int) < 0
 ·rw[if_pos (by simpa using h2),Bi (by unfold CM;omega)]
 ·rw[if_neg (by simpa using h2),Km (l:=h) (fun c=>c.fields.length) (EH h) (fun n left=>by rw[EH,if_neg (by simp[AK])]) (fun n i x left hx a b=>?_) (by omega) (by omega) (by omega)]
  ·by_cases g:left - (h.length:Int) - ((h.map (fun c=>c.fields.length)).sum:Nat) < 0
   ·rw[if_pos g,Bi (by unfold CM;omega)];rfl
   ·rw[if_neg g,Cu (by unfold CM;omega)]
    show some _=some _
    congr 1;unfold CM;omega
  ·have hi:=(List.getElem?_eq_some_iff.1 hx).1
   rw[EH,if_pos (by simp[AK];omega),Ai hx]
   simp only[Option.bind_some]
   rw[Vr a b (H.1 x (List.mem_of_getElem? hx)),Au (by omega) (by omega),show ((i:Int) + 1)=((i+1:Nat):Int) by omega]
   simp only[Option.bind_some]
   by_cases g:left - (x.fields.length:Int) < 0
   ·rw[if_pos g];simp[g]
   ·rw[if_neg g,if_neg (by simpa using g)]
    simp[g]
theorem Uy {p:Ah} (hp:H9 p) {left:Int} (h0:0≤left) (h1:left≤1048576):Hg p left=some (ND left (fz p)):=by
 unfold Hg
 rw[Fo h0 h1 hp.Ab.2]
 simp only[Option.bind_some]
 by_cases a:left - (p.Ab.length:Int) < 0
 ·rw[if_pos a,Bi (by unfold fz;omega)];rfl
 ·rw[if_neg a,if_neg (by simpa using a),Fo (by omega) (by omega) hp.own.2]
  simp only[Option.bind_some]
  by_cases b:left - (p.Ab.length:Int) - (p.own.length:Int) < 0
  ·rw[if_pos b,Bi (by unfold fz;omega)];rfl
  ·rw[if_neg b,if_neg (by simpa using b),Fo (by omega) (by omega) hp.held.2]
   simp only[Option.bind_some]
   by_cases c:left - (p.Ab.length:Int) - (p.own.length:Int) - (p.held.length:Int) < 0
   ·rw[if_pos c,Bi (by unfold fz;omega)];rfl
   ·rw[if_neg c,if_neg (by simpa using c),Cu (by unfold fz;omega)]
    congr 1;unfold fz;omega
theorem To {l:List Ah} (hl:Cb H9 l) {left:Int} (h0:0≤left) (h1:left≤1048576) {N:Nat} (hN:2000000≤N):HB N l left=some (ND left (l.length+(l.map fz).sum)):=by
 unfold HB
 have hlen:=hl.2
 rw[AK,Au (by omega) (by omega)]
 by_cases h:left - (l.length:Int) < 0
 ·rw[if_pos (by simpa using h),Bi (by omega)]
 ·rw[if_neg (by simpa using h),Km (l:=l) fz (Ds l) (fun n left=>by rw[Ds,if_neg (by simp[AK])]) (fun n i x left hx a b=>?_) (by omega) (by omega) (by omega)]
  ·by_cases g:left - (l.length:Int) - ((l.map fz).sum:Nat) < 0
   ·rw[if_pos g,Bi (by omega)];rfl
   ·rw[if_neg g,Cu (by omega)]
    show some _=some _
    congr 1;omega
  ·have hi:=(List.getElem?_eq_some_iff.1 hx).1
   rw[Ds,if_pos (by simp[AK];omega),Ai hx]
   simp only[Option.bind_some]
   rw[Uy (hl.1 x (List.mem_of_getElem? hx)) a b,Au (by omega) (by omega),show ((i:Int) + 1)=((i+1:Nat):Int) by omega]
   simp only[Option.bind_some]
   by_cases g:left - (fz x:Int) < 0
   ·rw[if_pos g,Bi g];rfl
   ·rw[if_neg g,Cu g,if_neg (by simpa using g)]
theorem VJ {s:Ay} (hs:I0 s) {left:Int} (h0:0≤left) (h1:left≤1048576) {N:Nat} (hN:2000000≤N):HW N s left=some (ND left (J4 s)):=by
 unfold HW
 rw[Fo h0 h1 hs.out.2]
 simp only[Option.bind_some]
 by_cases a:left - (s.out.length:Int) < 0
 ·rw[if_pos a,Bi (by unfold J4;omega)];rfl
 ·rw[if_neg a,if_neg (by simpa using a),T1 hs.heap (by omega) (by omega) hN]
  simp only[Option.bind_some]
  by_cases b:left - (s.out.length:Int) - (CM s.heap:Int) < 0
  ·rw[Bi b,Bi (by unfold J4;omega)];rfl
  ·rw[Cu b,if_neg (by simpa using b),To hs.AT (by omega) (by omega) hN]
   simp only[Option.bind_some]
   by_cases c:left - (s.out.length:Int) - (CM s.heap:Int) - ((s.AT.length+(s.AT.map fz).sum:Nat):Int) < 0
   ·rw[Bi c,Bi (by unfold J4;omega)];rfl
   ·rw[Cu c,if_neg (by simpa using c),Cu (by unfold J4;omega)]
    congr 1;unfold J4;omega
theorem VA {p:Ah} (h:fz p≤1048576) {N:Nat} (hN:2000000≤N):HT N p=some p:=by
 unfold fz at h
 unfold HT;rw[Fl (by omega) hN,Fl (by omega) hN,Fl (by omega) hN];rfl
theorem UA {l:List Ah} (hl:l.length+(l.map fz).sum≤1048576) {N:Nat} (hN:2000000≤N):G6 N l=some l:=by
 unfold G6
 rw[AK,Gu _ _ _ (by omega) (by omega)]
 simp only[Option.bind_some]
 rw[MB (l:=l) (Dh N l) (fun n m=>by rw[Dh,if_neg (by simp[AK])]) (fun n i x m hx hm=>?_) (by omega) (by simp)]
 ·rfl
 ·have hi:=(List.getElem?_eq_some_iff.1 hx).1
  have hz:=EX fz (List.mem_of_getElem? hx)
  obtain⟨y,hy,_⟩:=BS (l:=m) (i:=i) (by omega)
  rw[Dh,if_pos (by simp[AK];omega),Ai hx]
  simp only[Option.bind_some]
  rw[VA (by omega) hN,Ai hy]
  simp only[Option.bind_some]
  rw[ET,Au (by omega) (by omega),show ((i:Int) + 1)=((i+1:Nat):Int) by omega]
theorem X5 {s:Ay} (hs:I0 s) (h:J4 s≤1048576):Hp s.heap:=Hp.of hs.heap (by unfold J4 at h;omega)
theorem Uh {s:Ay} (hs:I0 s) (h:J4 s≤1048576) {N:Nat} (hN:2000000≤N):FF N s=some s:=by
 have H:=X5 hs h
 unfold J4 at h
 unfold FF;rw[Fl (by omega) hN,VS H hN,UA (by omega) hN];rfl
theorem Uq {p:Ah} (h:fz p≤1048576) {N:Nat} (hN:2000000≤N):Hn N p p=some true:=by
 unfold fz at h
 unfold Hn;rw[FP (by omega) hN,FP (by omega) hN,FP (by omega) hN];simp
theorem Tg {l:List Ah} (hl:l.length+(l.map fz).sum≤1048576) {N:Nat} (hN:2000000≤N):Gy N l l=some true:=by
 unfold Gy
 have L:=Bn (l:=l) (Dx N l l) (fun _ _=>true) (fun n=>by rw[Dx,if_neg (by simp[AK])]) (fun n i x hx=>?_) (by omega:l.length < N)
 ·rw[CW (p:=fun _=>true)] at L
  simp[L,Sh.cont]
 ·have hi:=(List.getElem?_eq_some_iff.1 hx).1
  have hz:=EX fz (List.mem_of_getElem? hx)
  rw[Dx,if_pos (by simp[AK];omega),Ai hx]
  simp only[Option.bind_some]
  rw[Uq (by omega) hN,Au (by omega) (by omega),show ((i:Int) + 1)=((i+1:Nat):Int) by omega]
  rfl
theorem VK {s:Ay} (hs:I0 s) (h:J4 s≤1048576) {N:Nat} (hN:2000000≤N):Hl N s s=some true:=by
 have H:=X5 hs h
 unfold J4 at h
 unfold Hl;rw[FP (by omega) hN,Uk H hN,Tg (by omega) hN];simp
end RC

