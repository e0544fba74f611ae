import Derived.Test.YtobjlimoekffaaaGreatGPlainAToIMJ
import Derived.Test.YtobjlimoekffaaaGreatGEncCToGCDefs

namespace RC
open Go
def fz (f:Ai):Nat:=f.Ab.length+f.own.length+f.held.length
def KC (s:Av):Nat:=s.out.length+CN s.heap+(s.AT.length+(s.AT.map fz).sum)
theorem Tw {h:List Cell} (H:XB h) {left:Int} (h0:0≤left) (h1:left≤1048576) {N:Nat} (hN:2000000≤N):Hw N h left=some (NJ left (CN h)):=by
 unfold Hw
 have hlen:=H.2
 rw[AK,As (by omega) (by omega)]
 have hf:GB h=(h.map (fun c=>c.fields.length)).sum:=rfl
 by_cases h2:left - (h.length:Int) < 0
 ·rw[if_pos (by simpa using h2),Bk (by unfold CN;omega)]
 ·rw[if_neg (by simpa using h2),LK (l:=h) (fun c=>c.fields.length) (EI h) (fun n left=>by rw[EI,if_neg (by simp[AK])]) (fun n i x left hx a b=>?_) (by omega) (by omega) (by omega)]
  ·by_cases g:left - (h.length:Int) - ((h.map (fun c=>c.fields.length)).sum:Nat) < 0
   ·rw[if_pos g,Bk (by unfold CN;omega)];rfl
   ·rw[if_neg g,Cv (by unfold CN;omega)]
    show some _=some _
    congr 1;unfold CN;omega
  ·have hi:=(List.getElem?_eq_some_iff.1 hx).1
   rw[EI,if_pos (by simp[AK];omega),Ak hx]
   simp only[Option.bind_some]
   rw[V6 a b (H.1 x (List.mem_of_getElem? hx)),As (by omega) (by omega),show ((i:Int) + 1)=((i+1:Nat):Int) by omega]
   simp only[Option.bind_some]
   by_cases g:left - (x.fields.length:Int) < 0
   ·rw[if_pos g];simp[g]
   ·rw[if_neg g,if_neg (by simpa using g)]
    simp[g]
theorem VM {p:Ai} (hp:IJ p) {left:Int} (h0:0≤left) (h1:left≤1048576):H0 p left=some (NJ left (fz p)):=by
 unfold H0
 rw[Fs h0 h1 hp.Ab.2]
 simp only[Option.bind_some]
 by_cases a:left - (p.Ab.length:Int) < 0
 ·rw[if_pos a,Bk (by unfold fz;omega)];rfl
 ·rw[if_neg a,if_neg (by simpa using a),Fs (by omega) (by omega) hp.own.2]
  simp only[Option.bind_some]
  by_cases b:left - (p.Ab.length:Int) - (p.own.length:Int) < 0
  ·rw[if_pos b,Bk (by unfold fz;omega)];rfl
  ·rw[if_neg b,if_neg (by simpa using b),Fs (by omega) (by omega) hp.held.2]
   simp only[Option.bind_some]
   by_cases c:left - (p.Ab.length:Int) - (p.own.length:Int) - (p.held.length:Int) < 0
   ·rw[if_pos c,Bk (by unfold fz;omega)];rfl
   ·rw[if_neg c,if_neg (by simpa using c),Cv (by unfold fz;omega)]
    congr 1;unfold fz;omega
theorem Uf {l:List Ai} (hl:Cb IJ l) {left:Int} (h0:0≤left) (h1:left≤1048576) {N:Nat} (hN:2000000≤N):HJ N l left=some (NJ left (l.length+(l.map fz).sum)):=by
 unfold HJ
 have hlen:=hl.2
 rw[AK,As (by omega) (by omega)]
 by_cases h:left - (l.length:Int) < 0
 ·rw[if_pos (by simpa using h),Bk (by omega)]
 ·rw[if_neg (by simpa using h),LK (l:=l) fz (D1 l) (fun n left=>by rw[D1,if_neg (by simp[AK])]) (fun n i x left hx a b=>?_) (by omega) (by omega) (by omega)]
  ·by_cases g:left - (l.length:Int) - ((l.map fz).sum:Nat) < 0
   ·rw[if_pos g,Bk (by omega)];rfl
   ·rw[if_neg g,Cv (by omega)]
    show some _=some _
    congr 1;omega
  ·have hi:=(List.getElem?_eq_some_iff.1 hx).1
   rw[D1,if_pos (by simp[AK];omega),Ak hx]
   simp only[Option.bind_some]
   rw[VM (hl.1 x (List.mem_of_getElem? hx)) a b,As (by omega) (by omega),show ((i:Int) + 1)=((i+1:Nat):Int) by omega]
   simp only[Option.bind_some]
   by_cases g:left - (fz x:Int) < 0
   ·rw[if_pos g,Bk g];rfl
   ·rw[if_neg g,Cv g,if_neg (by simpa using g)]
theorem U6 {s:Av} (hs:JA s) {left:Int} (h0:0≤left) (h1:left≤1048576) {N:Nat} (hN:2000000≤N):Hz N s left=some (NJ left (KC s)):=by
 unfold Hz
 rw[Fs h0 h1 hs.out.2]
 simp only[Option.bind_some]
 by_cases a:left - (s.out.length:Int) < 0
 ·rw[if_pos a,Bk (by unfold KC;omega)];rfl
 ·rw[if_neg a,if_neg (by simpa using a),Tw hs.heap (by omega) (by omega) hN]
  simp only[Option.bind_some]
  by_cases b:left - (s.out.length:Int) - (CN s.heap:Int) < 0
  ·rw[Bk b,Bk (by unfold KC;omega)];rfl
  ·rw[Cv b,if_neg (by simpa using b),Uf hs.AT (by omega) (by omega) hN]
   simp only[Option.bind_some]
   by_cases c:left - (s.out.length:Int) - (CN s.heap:Int) - ((s.AT.length+(s.AT.map fz).sum:Nat):Int) < 0
   ·rw[Bk c,Bk (by unfold KC;omega)];rfl
   ·rw[Cv c,if_neg (by simpa using c),Cv (by unfold KC;omega)]
    congr 1;unfold KC;omega
theorem Vr {p:Ai} (h:fz p≤1048576) {N:Nat} (hN:2000000≤N):Hr N p=some p:=by
 unfold fz at h
 unfold Hr;rw[Fu (by omega) hN,Fu (by omega) hN,Fu (by omega) hN];rfl
theorem Ua {l:List Ai} (hl:l.length+(l.map fz).sum≤1048576) {N:Nat} (hN:2000000≤N):HE N l=some l:=by
 unfold HE
 rw[AK,Gw _ _ _ (by omega) (by omega)]
 simp only[Option.bind_some]
 rw[Mb (l:=l) (D0 N l) (fun n m=>by rw[D0,if_neg (by simp[AK])]) (fun n i x m hx hm=>?_) (by omega) (by simp)]
 ·rfl
 ·have hi:=(List.getElem?_eq_some_iff.1 hx).1
  have hz:=EZ fz (List.mem_of_getElem? hx)
  obtain⟨y,hy,_⟩:=BR (l:=m) (i:=i) (by omega)
  rw[D0,if_pos (by simp[AK];omega),Ak hx]
  simp only[Option.bind_some]
  rw[Vr (by omega) hN,Ak hy]
  simp only[Option.bind_some]
  rw[Ec,As (by omega) (by omega),show ((i:Int) + 1)=((i+1:Nat):Int) by omega]
theorem Yg {s:Av} (hs:JA s) (h:KC s≤1048576):Hp s.heap:=Hp.of hs.heap (by unfold KC at h;omega)
theorem VL {s:Av} (hs:JA s) (h:KC s≤1048576) {N:Nat} (hN:2000000≤N):FJ N s=some s:=by
 have H:=Yg hs h
 unfold KC at h
 unfold FJ;rw[Fu (by omega) hN,Us H hN,Ua (by omega) hN];rfl
theorem Uy {p:Ai} (h:fz p≤1048576) {N:Nat} (hN:2000000≤N):He N p p=some true:=by
 unfold fz at h
 unfold He;rw[FR (by omega) hN,FR (by omega) hN,FR (by omega) hN];simp
theorem Tm {l:List Ai} (hl:l.length+(l.map fz).sum≤1048576) {N:Nat} (hN:2000000≤N):HK N l l=some true:=by
 unfold HK
 have L:=Bo (l:=l) (Dl N l l) (fun _ _=>true) (fun n=>by rw[Dl,if_neg (by simp[AK])]) (fun n i x hx=>?_) (by omega:l.length < N)
 ·rw[CW (p:=fun _=>true)] at L
  simp[L,Sh.cont]
 ·have hi:=(List.getElem?_eq_some_iff.1 hx).1
  have hz:=EZ fz (List.mem_of_getElem? hx)
  rw[Dl,if_pos (by simp[AK];omega),Ak hx]
  simp only[Option.bind_some]
  rw[Uy (by omega) hN,As (by omega) (by omega),show ((i:Int) + 1)=((i+1:Nat):Int) by omega]
  rfl
theorem Vl {s:Av} (hs:JA s) (h:KC s≤1048576) {N:Nat} (hN:2000000≤N):Ho N s s=some true:=by
 have H:=Yg hs h
 unfold KC at h
 unfold Ho;rw[FR (by omega) hN,Uq H hN,Tm (by omega) hN];simp
end RC

