import Derived.Test.YtccficmcdkcpnaaGreatNOWalkP4
set_option linter.all false
namespace Go.Proofs.YtccficmcdkcpnaaGreat
open Go Go.Abs RC
attribute [local irreducible] Go.Abs.Dp
set_option maxRecDepth 100000
set_option maxHeartbeats 4000000
theorem kC:DB Tryz.prog 134=true:=by kernel_rfl
theorem mH:De Tryz.prog 4=some (false,1):=by kernel_rfl
theorem pT:HN Tryz.prog 4=some [.bool false]:=by kernel_rfl
theorem RY {N:Nat}{vD:Int->Block->Option (Bool×Int)}(wx :∀{uT:Int} {p0:Block} {r:Bool×Int},vD uT p0=some r->Bn 122 [I0 p0,Aq] [Ts uT] (.bool r.1) [Ts r.2]){uT:Int}{p0:Block}{r:Bool×Int}(h0:Jb N vD uT p0=some r):Bn 122 [I0 p0,Aq] [Ts uT] (.bool r.1) [Ts r.2]:=by
 unfold Jb at h0;refine Cx Tryz.func122 AA (Ai λK1 G=>Et 1 AA (AR AA (Ad G (AD λQ H=>Ai λK3 I=>Ae 2 AA (Cc AA (AR AA (Ad I ?_)))))));obtain⟨J,a,h0⟩:=Sh.BZ h0;have R:∀(K:Int),J=Sum.inr K->∀s,Wk 1 s ⟨38,AL [],[Ts K]⟩->Q s:=by
  intro K S s M;subst J;refine H _ (AF M (Al AA ?_));cases h0;exact rt [(4,.bool true)]
 refine AJ (KB (EG N p0 vD) (λi j=>⟨38,AL [(1,.ptr 0 0 0 0),(10,ls C8 p0.steps),(11,i64 (Sh.len p0.steps)),(12,i64 i)],[Ts j]⟩) N 0 uT a (BH [0] (.w .nil) (.same AA)) ?_);intro n i j a;rw[EG]at a;refine Al AA (AD λT l=>?_);refine Az a ?_ ?_<;>intro U a
 ·refine AH (l _ (AD λO o=>AJ (Ai λV p=>bs a λd q a=>zz (.CT (Tj d) 0) (CI MC AA AA q (Gn _) rfl) rfl (AR AA (Cn 1 P8 AA (Bp Zy AA (Ad p (AD λW t=>Ai λX u=>Ae 5 AA (Bp HP AA (Ad u (Al AA ?_)))))))))));refine Az a ?_ ?_<;>intro Y a
  ·refine Al AA ?_;cases a;cases h0;exact Ap (xr (BH (L:=[(4,.bool false)]) (st':=[⟨0,3,1,[[Kp j]]⟩]) [0] (.w .nil) ⟨.rfl,pw⟩))
  ·refine AH (t _ (Ai λZ x=>Ae 2 AA (Cc AA (AR AA (Ad x ?_)))));obtain⟨g,b,a⟩:=Sh.BZ a;have P:∀(e:Int),g=Sum.inr e->∀s,Wk 1 s ⟨38,AL [(1,Aq),(10,ls C8 p0.steps),(11,i64 (Sh.len p0.steps)),(12,i64 i)],[Ts e]⟩->O s:=by
    intro e S s M;subst g;exact o _ (AF M (AE AA (Ae 2 AA (AB (xi (Sh.w (i+1),e) a Au)))))
   refine AJ (KB (ED d vD) (λh f=>⟨38,AL [(1,.ptr 0 0 0 0),(10,ls C8 p0.steps),(11,i64 (Sh.len p0.steps)),(12,i64 i),(26,ls EZ d.kids),(27,i64 (Sh.len d.kids)),(28,i64 h)],[Ts f]⟩) N 0 (Sh.w (j+1)) b (BH [0] (.w .nil) (.same AA)) ?_);intro n h f b;rw[ED]at b;refine Al AA (AD λb0 y=>?_);refine Az b ?_ ?_<;>intro b1 b
   ·refine AH (y _ (AD λb2 z=>AJ (Ai λb3 A=>bs b λB C b=>Gz Rv C AA (AR AA (Cn 1 Rj AA (Bp WR AA (Ad A (Ai λb4 D=>Ae 2 AA (bs b λc E b=>IE [Ts c.2,bU B.steps B.result] (.bool c.1) [0] AT (hb 122) (wx E) rfl AA (AR AA (Ad D ?_)))))))))));refine Az b ?_ ?_<;>intro F b
    ·have b5:c.1=false:=by simpa using F
     refine Al AA ?_;cases b;cases a;cases h0;exact Ap (xr (BH (L:=[(4,.bool false)]) (st':=[Ts c.2]) [0] (.w .nil) ⟨.rfl,pw⟩))
    ·have b6:c.1=true:=by simpa using F
     exact AH (z _ (AE AA (Ae 2 AA (AB (xi (Sh.w (h+1),c.2) b (BH [0] (.w .nil) (.same AA)))))))
   ·exact As (P f (BU b) _ Au)
 ·exact As (R j (BU a) _ Au)
theorem RS {N:Nat}:∀(n:Nat),∀{uT:Int} {p0:Block} {r:Bool×Int},GH N n uT p0=some r->Bn 122 [I0 p0,Aq] [Ts uT] (.bool r.1) [Ts r.2]:=by
 intro n
 induction n with
 | zero=>intro uT p0 r a;cases a
 | succ n ih=>
  intro uT p0 r a;rw[GH]at a;exact RY (λh=>ih h) a
theorem Sy {N:Nat}:∀{uT:Int} {p0:Block} {r:Bool×Int},Mv N uT p0=some r->Bn 122 [I0 p0,Aq] [Ts uT] (.bool r.1) [Ts r.2]:=by
 intro uT p0 r a;exact RS N a
theorem VI {N:Nat}{p0:Block}{r:Int}(h0:Ld N p0=some r):Bn 64 [I0 p0] [] (i64 r) []:=by
 unfold Ld at h0;refine Cx Tryz.func64 AA (Ai λh b=>Et 0 AA (AR AA (Ad b (Ai λi c=>Cn 1 oc AA (Bp HP AA (Ad c (AD λj d=>Ai λk e=>AR AA (bs h0 λa f h0=>IE [bU p0.steps p0.result,Ts a.2] (.bool a.1) [1] AT (hb 122) (Sy f) rfl AA (AR AA (Ad e ?_))))))))));refine Az h0 ?_ ?_<;>intro g h0
 ·have l:a.1=false:=by simpa using g
  refine Al AA ?_;cases h0;exact rd [(2,i64 (-1))]
 ·have n:a.1=true:=by simpa using g
  refine AH (d _ (Al AA ?_));cases h0;exact rd [(2,i64 a.2)]
theorem LO {p0:Int}{r:Bool}(h0:EM p0=some r):Bn 96 [i64 p0] [] (.bool r) []:=by
 unfold EM at h0;refine Cx Tryz.func96 AA (Al AA (AD λg d=>bs h0 λe b h0=>?_));have f:∀{c},JJ e c ⟨9,AL [(2,.bool c)],[]⟩ g:=by
  rintro _ ⟨⟩ s h;try dsimp only at h0
  refine d _ (AF h ?_);obtain rfl:=Sh.Bt h0;exact rt [(2,.bool e)]
 refine AE AA (Ae 3 AA ?_);rcases Sh.Aa b with ⟨a,b⟩|⟨a,b⟩
 ·exact Am a AA (Am a AA (zt a AA (AR AA (AB (f b Au)))))
 ·exact zs a AA (zs a AA (zf a AA (AR AA (AB (f b Au)))))
theorem Jz {N:Nat}{uX:Ah->(List Int)->Block->Option (Int)}(vI :∀{p0:Ah} {p1:(List Int)} {p2:Block} {r:Int},uX p0 p1 p2=some r->Bn 65 [I1 p0,ls eI p1,I0 p2] [] (i64 r) []){p0:Ah}{p1:(List Int)}{p2:(List Block)}{p3:(List (List Int))}{r:Int×Bool}(h0:DM N uX p0 p1 p2 p3=some r):Bn 188 [I1 p0,ls eI p1,ls EZ p2,Y6 p3] [] (.Dv [i64 r.1,.bool r.2]) []:=by
 unfold DM at h0;refine Cx Tryz.func188 AA (Ai λW B=>Et 0 AA (Ae 2 AA (Ad B (Al AA (AD λJ C=>Ai λX D=>AR AA (Cc AA (AR AA (Ad D ?_))))))));obtain⟨E,b,h0⟩:=Sh.BZ h0;have K:∀{vg},JJ E (.inr vg) ⟨45,AL [(10,i64 vg)],[]⟩ J:=by
  rintro vg ⟨⟩ s F;refine C _ (AF F (Al AA ?_));cases h0;exact rt [(8,i64 vg),(9,.bool true)]
 refine AJ (KB (DI N p0 p1 p2 p3 uX) (λvP A=>⟨45,AL [(1,ls eI p1),(3,ls (eS eI) p3),(4,.ptr 0 0 0 0),(10,i64 vP),(14,ls EZ p2),(15,i64 (Sh.len p2)),(16,i64 A)],[⟨0,65,2,[Dl p0]⟩]⟩) N (-1) 0 b Au ?_);intro n vP A b;rw[DI]at b;refine Al AA (AD λO h=>?_);refine Az b ?_ ?_<;>intro P b
 ·refine AH (h _ (AD λQ i=>AJ (Ai λR j=>AR AA (bs b λS k b=>Gz Rv k AA (AR AA (Cn 1 Rj AA (AR AA (Bp WR AA (Ad j (AD λT o=>Bu 10 (by kernel_rfl) (by kernel_rfl) (by rfl) ?_))))))))));iterate 4 refine yq tb rfl ?_
  refine bs b λG p b=>Mt Lv p AA (yq tb AA (Gv (l:=[p1,G]) (enc:=(eS eI)) AT Lv (by decide) rfl AA AA AA AA Bf (bs b λq t b=>?_)));refine Fa (BS.wk (Fe t) (by refine Wk.trans (Wk.Bg (L:=[(0,ls eI q)]) (st':=S6) (id:=0) rfl tw Bf ⟨.Bg AA,pw⟩ AA) ?_;exact BH [] .nil (.same AA))) ?_;refine yq tb AA (bs b λd u b=>Fa (vI u) (Ao (AR AA (Ad o (AD λU x=>AD λH y=>bs b λz e b=>?_)))));have f:∀{g},JJ z g ⟨45,AL [(1,ls eI p1),(3,Y6 p3),(4,Aq),(13,i64 d),(14,ls EZ p2),(15,Cb p2),(16,i64 A),(41,.bool g)],[IM p0]⟩ H:=by
   rintro _ ⟨⟩ s F;refine y _ (AF F ?_);refine Az b ?_ ?_<;>intro V b
   ·refine Al AA ?_;cases b;cases h0;exact rd (lF [])
   ·exact AH (x _ (AE AA (Ae 2 AA (Ad i (AE AA (Ae 2 AA (AB (xi (d,Sh.w (A+1)) b Au))))))))
  refine AE AA (Ae 3 AA ?_);rcases Sh.Aa e with ⟨a,e⟩|⟨a,e⟩
  ·refine zs a AA (zs a AA (zs a AA ?_));iterate 3 refine zn rfl ?_
   exact zs a AA (zt a AA (AB (f e (BH [0] (.w .nil) (.same AA)))))
  ·refine Am a AA (Am a AA (Am a AA ?_));rcases Sh.Aa e with ⟨c,e⟩|⟨c,e⟩
   ·exact Am c AA (Am c AA (Am c AA (DQ (.bool (!decide (d=vP))) a (Gy AA c AA) (zf a AA (AB (f e (BH [0] (.w .nil) (.same AA))))))))
   ·exact zs c AA (zs c AA (zs c AA (DQ (.bool false) a (HE AA c AA) (zf a AA (AB (f e (BH [0] (.w .nil) (.same AA))))))))
 ·exact As (K b (Bi _ AA))
theorem Nc {N:Nat}{p0:Ah}{p1:Int}{r:(List (List Int))}(h0:EO N p0 p1=some r):Bn 117 [I1 p0,i64 p1] [] (ow 0 0 r) [ro 0 45 1 (eS eI) r]:=by
 unfold EO at h0;refine Cx Tryz.func117 AA (Ai λJ q=>Et 0 AA (AR AA (Ad q (Al AA (AD λC u=>Ai λK x=>Ae 3 AA (bs h0 λb y h0=>La (ow 1 0 b) (N2 y) ⟨(Bj λ_=>AA),pw⟩ (zz (Cb b) (C9 FY AA AA AA) rfl (AR AA (Ad x (bs h0 λz a h0=>?_))))))))));have D:∀{f},JJ z f ⟨26,AL [(5,ow 0 0 f)],[ro 0 45 1 (eS eI) f]⟩ C:=by
  rintro _ ⟨⟩ s E;try dsimp only at h0
  refine u _ (AF E (Al AA ?_));obtain rfl:=Sh.Bt h0;exact rt [(4,ow 0 0 z)]
 refine AJ (KB (Ce N p0 b) (λg p=>⟨26,AL [(2,.ptr 0 0 0 0),(5,ow 2 0 p),(11,ow 1 0 b),(12,i64 (Sh.len b)),(13,i64 g)],[⟨0,65,2,[Dl p0]⟩,ro 0 3 1 eI b,ro 0 45 1 (eS eI) p]⟩) N 0 [] a ((JV (t:=5) rfl 45 (size:=1) (by decide)).trans (Dh [(2,.ptr 0 0 0 0),(5,.own 2 0 (List.length ([]:List (List Int)))),(11,ow 1 0 b),(12,i64 (Sh.len b)),(13,i64 0)] (.same AA))) ?_);intro n g p a;rw[Ce]at a;refine Al AA (AD λF h=>?_);refine Az a ?_ ?_<;>intro G a
 ·refine AH (h _ (AD λH i=>AJ (Ai λI j=>bs a λA c a=>zz (Mc g) (HC BE AA c) rfl (zz (i64 A) (CL HP AA AA (CM c) rfl) rfl (AR AA (Ad j (AE AA (Ae 4 AA (bs a λd k a=>HX (hb 105) (MZ k) rfl (CF 3 [d] (eS eI) Lv AA (bs a λe o a=>Lb [d] Lv AA (E8 AA AA) o (AR AA (Ad i (AE AA (Ae 2 AA ?_)))))))))))))));exact AB (xi (Sh.w (g+1),e) a (by refine Wk.trans (Eh (L:=[(2,Aq),(5,ow 2 0 e),(11,ow 1 0 b),(12,Cb b),(13,Kp g)]) (st':=[IM p0,BP b,ro 0 45 1 (eS eI) e,ro 0 45 1 (eS eI) [d]]) (.raw AA AA (.pure Bf (.pure Bf (.pure Bf .nil)))) (.same AA)) ?_;exact BH [0,1,2] (.w (.p (.p .nil))) (.same AA)))
 ·exact As (D a (BH [2] (.p .nil) (.same AA)))
theorem Nr {N:Nat}{uX:Ah->(List Int)->Block->Option (Int)}(vI :∀{p0:Ah} {p1:(List Int)} {p2:Block} {r:Int},uX p0 p1 p2=some r->Bn 65 [I1 p0,ls eI p1,I0 p2] [] (i64 r) []){p0:Ah}{p1:(List Int)}{p2:Step}{r:Int×Bool}(h0:Be N uX p0 p1 p2=some r):Bn 120 [I1 p0,ls eI p1,.agg (Tj p2)] [] (.Dv [i64 r.1,.bool r.2]) []:=by
 unfold Be at h0;refine Cx Tryz.func120 AA (Ai λK1 m6=>Et 0 AA (Et 1 AA (Ae 2 AA (Ad m6 (Ai λK2 m7=>Ae 2 AA (Cc AA (bs h0 λl3 m8 h0=>fS (m:=2) (st':=(lK p0 p2 [ro 0 3 1 eI ([]:List Int)])) BE AA AA m8 AA AA (AR AA (Ad m7 (AD λK4 m9=>Ai λK5 q0=>Ae 2 AA (Cc AA (AR AA (Ad q0 ?_)))))))))))));obtain⟨o9,a,h0⟩:=Sh.BZ h0;have M9:∀{U},JJ o9 (.inr U) ⟨233,AL (R4 p1 [(8,ow 2 0 U)]),lM p0 p2 U⟩ K4:=by
  rintro U ⟨⟩ s Q;refine m9 _ (AF Q (AD λt2 d6=>AD λq1 d7=>bs h0 λd8 a h0=>?_));have Z:∀{c5},JJ d8 c5 ⟨233,AL (R4 p1 [(8,ow 2 0 U),(70,.bool c5)]),lM p0 p2 U⟩ q1:=by
   rintro _ ⟨⟩ s Q;refine d7 _ (AF Q ?_);refine Az h0 ?_ ?_<;>intro t3 h0
   ·refine Al AA ?_;cases h0;exact rd (kJ [])
   ·refine AH (d6 _ (AD λt4 d9=>AJ (Ai λt5 g0=>Ae 2 AA (bs h0 λt7 g1 h0=>HX (hb 96) (LO g1) rfl (AR AA (Ad g0 ?_))))));refine Az h0 ?_ ?_<;>intro t8 h0
    ·refine AD λq2 g2=>bs h0 λg3 a h0=>?_;have b3:∀{R},JJ g3 R ⟨233,AL [(3,Aq),(5,DW),(8,ow 2 0 U),(11,.bool R)],lM p0 p2 U⟩ q2:=by
      rintro _ ⟨⟩ s Q;refine g2 _ (AF Q (AD λq3 g4=>bs h0 λg5 a h0=>?_));have g6:∀{Y},JJ g5 Y ⟨233,AL [(11,.bool Y)],[]⟩ q3:=by
       rintro _ ⟨⟩ s Q;refine g4 _ (AF Q (Al AA ?_));cases h0;exact rt [(6,i64 (-1)),(7,.bool g5)]
      refine AD λq4 g7=>bs a λg8 V a=>?_;have c6:∀{c7},JJ g8 c7 ⟨233,AL [(3,Aq),(8,ow 1 0 U),(11,.bool g3),(105,.bool c7)],[IM p0,BP U]⟩ q4:=by
       rintro _ ⟨⟩ s Q;refine g7 _ (AF Q ?_);refine Az a ?_ ?_<;>intro t9 a
       ·refine AD λv0 g9=>?_;refine Iw (by kernel_rfl) ?_;refine bs a λh3 c0 a=>bs a λc c1 a=>NB λA34 b=>?_;have g:A34 0 (bm 12 4095) ⟨233,AL [(13,.bool c.2)],[]⟩:=(b _ _ _).2 (by
         exact GP AA (by kernel_rfl) (g9 _ (AE AA (Ae 3 AA (AB (g6 a (Dh [(11,.bool (!c.2))] (.same AA))))))))
        have f:A34 2 (bm 12 1023) ⟨233,AL [(12,Aq),(113,aZ c.1),(114,.bool c.2)],[kM]⟩:=(b _ _ _).2 (by
         refine xa [10] ⟨?_,pw⟩
         ·refine xo 10 (Bp Hl AA (AB ⟨AA,LP tb 11 AA AA ?_⟩));exact xw b g (by exact BH [] .nil (.same AA)))
        have h:A34 3 (bm 12 511) ⟨233,AL [(113,aZ c.1),(114,.bool c.2)],[]⟩:=(b _ _ _).2 (by
         refine xa [9] ⟨?_,pw⟩
         ·refine xo 9 ?_;exact Cn 0 Ev AA (xd b f))
        have p:A34 2 (bm 12 1791) ⟨233,AL [(106,Qz c.1 c.2)],[]⟩:=(b _ _ _).2 (by
         refine xa [8] ⟨?_,pw⟩
         ·refine xo 8 ?_;refine AR AA (AB ⟨AA,?_⟩);refine LP tb 11 AA AA ?_;exact xt b g)
        have i:A34 3 (bm 12 767) ⟨233,AL [(12,Aq),(106,Qz c.1 c.2),(113,aZ c.1)],[kM]⟩:=(b _ _ _).2 (by
         refine xa [8,10] ⟨?_,?_,pw⟩
         ·exact xq tb b f
         ·refine xo 10 ?_;exact Bp Hl AA (P5 b p (by exact BH [] .nil (.same AA))))
        have y:A34 4 (bm 12 255) ⟨233,AL [(106,Qz c.1 c.2),(113,aZ c.1)],[]⟩:=(b _ _ _).2 (by
         refine xa [8,9] ⟨?_,?_,pw⟩
         ·exact xq tb b h
         ·refine xo 9 ?_;exact Cn 0 Ev AA (xd b i))
        have j:A34 3 (bm 12 895) ⟨233,AL [(12,Aq),(106,Qz c.1 c.2),(114,.bool c.2)],[kM]⟩:=(b _ _ _).2 (by
         refine xa [7] ⟨?_,pw⟩
         ·exact xq tb b f)
        have z:A34 4 (bm 12 383) ⟨233,AL [(106,Qz c.1 c.2),(114,.bool c.2)],[]⟩:=(b _ _ _).2 (by
         refine xa [7,9] ⟨?_,?_,pw⟩
         ·exact xq tb b h
         ·refine xo 9 ?_;exact Cn 0 Ev AA (xd b j))
        have k:A34 4 (bm 12 639) ⟨233,AL [(12,Aq),(106,Qz c.1 c.2)],[kM]⟩:=(b _ _ _).2 (by
         refine xa [7,8] ⟨?_,?_,pw⟩
         ·exact xq tb b i
         ·exact xq tb b j)
        have C:A34 5 (bm 12 127) ⟨233,AL [(106,Qz c.1 c.2)],[]⟩:=(b _ _ _).2 (by
         refine xa [7,8,9] ⟨?_,?_,?_,pw⟩
         ·exact xq tb b y
         ·exact xq tb b z
         ·refine xo 9 ?_;exact Cn 0 Ev AA (xd b k))
        have S:A34 6 (bm 12 543) ⟨233,AL [(12,Aq),(108,Cd p0.decls),(111,i64 h3)],[kM]⟩:=(b _ _ _).2 (by
         refine xa [5] ⟨?_,pw⟩
         ·refine xo 5 ?_;refine Dj (Qz c.1 c.2) (hb 187) (Ku c1) rfl (AB ⟨AA,?_⟩);refine LP tb 6 AA AA ?_;exact xt b k)
        have W:A34 7 (bm 12 31) ⟨233,AL [(108,Cd p0.decls),(111,i64 h3)],[]⟩:=(b _ _ _).2 (by
         refine xa [5,9] ⟨?_,?_,pw⟩
         ·exact xo 5 (Dj (Qz c.1 c.2) (hb 187) (Ku c1) rfl (AB ⟨AA,qX tb 6 AA AA (xt b C)⟩))
         ·refine xo 9 ?_;exact Cn 0 Ev AA (xd b S))
        refine (b _ _ _).2 (qX tb 0 AA AA (qX tb 1 AA AA (qX tb 2 AA AA (aX 3 (.ptr 1 0 (Int.toNat 0) 0) rfl (HC BE AA c0) (XV 4 AA AA (by kernel_rfl) (Tg HP AA AA (CM c0) rfl) ?_)))));exact xw b W (by exact BH [] .nil (.same AA))
       ·exact AH (g6 a (Bi _ AA))
      refine AE AA (Ae 2 AA ?_);rcases Sh.Aa V with ⟨t,V⟩|⟨t,V⟩
      ·refine Am t AA ?_;iterate 3 refine Am t rfl ?_
       rcases Sh.Aa V with ⟨D,V⟩|⟨D,V⟩
       ·exact zs D AA (zs D AA (zs D AA (DQ (.bool true) t (Gy AA D AA) (zt t AA (AB (c6 V (BH [0,2] (.w (.p .nil)) (.same AA))))))))
       ·exact Am D AA (Am D AA (Am D AA (DQ (.bool (decide (p2.op=17))) t (HE AA D AA) (zt t AA (AB (c6 V (BH [0,2] (.w (.p .nil)) (.same AA))))))))
      ·refine zs t AA ?_;iterate 3 refine zs t rfl ?_
       iterate 3 refine zn rfl ?_
       exact zs t AA (zf t AA (AB (c6 V (BH [0,2] (.w (.p .nil)) (.same AA)))))
     refine AE AA (AR AA (zz (Cb U) (C9 FY AA AA AA) rfl (Ae 2 AA ?_)));rcases Sh.Aa a with ⟨E,a⟩|⟨E,a⟩
     ·refine Am E AA (bs a λq5 c2 a=>DQ lr E (HC BE AA c2) (DQ (i64 q5) E (CL HP AA AA (CM c2) rfl) (Am E AA (zt E AA (AR AA ?_)))));rcases Sh.Aa a with ⟨F,a⟩|⟨F,a⟩
      ·refine Am F AA (Am F AA (Am F AA (zt F AA (AR AA ?_))));rcases Sh.Aa a with ⟨G,a⟩|⟨G,a⟩
       ·exact Am G AA (Am G AA (DQ (Cb p2.kids) G (By bZ AA) (Am G AA (zt G AA (AR AA (AB (b3 a Au)))))))
       ·refine zs G AA ?_;iterate 3 refine zs G rfl ?_
        exact zf G AA (AR AA (AB (b3 a Au)))
      ·refine zs F AA (zs F AA (zs F AA (zf F AA (AR AA ?_))));iterate 4 refine zs rfl rfl ?_
       exact zf AA AA (AR AA (AB (b3 a Au)))
     ·refine zs E AA ?_;iterate 3 refine zs E rfl ?_
      refine zf E AA (AR AA ?_);iterate 3 refine zs rfl rfl ?_
      refine zf AA AA (AR AA ?_);iterate 4 refine zs rfl rfl ?_
      exact zf AA AA (AR AA (AB (b3 a Au)))
    ·refine Al AA ?_;refine Az h0 ?_ ?_<;>intro v1 h0
     ·refine AD λv2 h4=>AD λq6 h5=>bs h0 λh6 a h0=>?_;have b4:∀{c8},JJ h6 c8 ⟨233,AL (R4 p1 [(141,.bool c8)]),lK p0 p2 []⟩ q6:=by
       rintro _ ⟨⟩ s Q;refine h5 _ (AF Q ?_);refine Az h0 ?_ ?_<;>intro v3 h0
       ·refine Al AA ?_;cases h0;exact rd (kJ [])
       ·refine AH (h4 _ (AD λv4 h7=>Bu 9 (by kernel_rfl) (by kernel_rfl) (by rfl) ?_));iterate 4 refine yq tb rfl ?_
        refine bs h0 λv5 h8 h0=>ml (enc:=(eS eI)) (u:=[]) AT Lv AA AA AA h8 Bf (bs h0 λb5 h9 h0=>Fa (Jz vI h9) ?_);iterate 3 refine yq tb rfl ?_
        refine Ao (AR AA (Ad h7 ?_));cases h0;exact rd [(6,i64 b5.1),(7,.bool b5.2)]
      refine AE AA (AR AA (zz (Cb U) (C9 FY AA AA AA) rfl (Ae 2 AA ?_)));rcases Sh.Aa a with ⟨H,a⟩|⟨H,a⟩
      ·refine zs H AA ?_;iterate 3 refine zs H rfl ?_
       refine zt H AA (AR AA ?_);iterate 3 refine zs rfl rfl ?_
       refine zt AA AA (AR AA ?_);iterate 4 refine zs rfl rfl ?_
       exact zt AA AA (AB (b4 a (BH [0,1] (.w (.w .nil)) (.same AA))))
      ·refine Am H AA (bs a λq7 c3 a=>DQ lr H (HC BE AA c3) (DQ (i64 q7) H (CL HP AA AA (CM c3) rfl) (Am H AA (zf H AA (AR AA ?_)))));rcases Sh.Aa a with ⟨I,a⟩|⟨I,a⟩
       ·refine zs I AA (zs I AA (zs I AA (zt I AA (AR AA ?_))));iterate 4 refine zs rfl rfl ?_
        exact zt AA AA (AB (b4 a (BH [0,1] (.w (.w .nil)) (.same AA))))
       ·refine Am I AA (Am I AA (Am I AA (zf I AA (AR AA ?_))));rcases Sh.Aa a with ⟨J,a⟩|⟨J,a⟩
        ·refine zs J AA ?_;iterate 3 refine zs J rfl ?_
         exact zt J AA (AB (b4 a (BH [0,1] (.w (.w .nil)) (.same AA))))
        ·exact Am J AA (Am J AA (DQ (Cb p2.kids) J (By bZ AA) (Am J AA (zf J AA (AB (b4 a (BH [0,1] (.w (.w .nil)) (.same AA))))))))
     ·refine Al AA ?_;refine Az h0 ?_ ?_<;>intro v6 h0
      ·refine Ai λv7 k0=>Ae 3 AA (bs h0 λX k1 h0=>La (ow 3 0 X) (Nc k1) ⟨(Bj λ_=>AA),pw⟩ (AR AA (Ad k0 (AD λv8 k2=>AD λq8 k3=>bs h0 λk4 a h0=>?_))));have b6:∀{c9},JJ k4 c9 ⟨233,AL (R4 p1 [(14,ow 2 0 X),(181,.bool c9)]),lK p0 p2 [ro 0 45 1 (eS eI) X]⟩ q8:=by
        rintro _ ⟨⟩ s Q;refine k3 _ (AF Q ?_);refine Az h0 ?_ ?_<;>intro v9 h0
        ·refine Al AA ?_;cases h0;exact rd (kJ [])
        ·refine AH (k2 _ (Ai λw0 k5=>Ae 5 AA (D8 [(182,I1 p0),(183,ls eI p1),(185,ls EZ p2.kids),(186,Y6 X)] (lK p0 p2 [⟨1,45,1,[]⟩]) 2 AA ⟨.rfl,.rfl,.rfl,.Bg AA,pw⟩ Cv AA (bs h0 λb7 k6 h0=>Dj (.Dv [i64 b7.1,.bool b7.2]) (hb 188) (Jz vI k6) rfl (Ae 4 AA (Ad k5 ?_))))));cases h0;exact rd [(6,i64 b7.1),(7,.bool b7.2)]
       refine CZ (by kernel_rfl) (by kernel_rfl) (by rfl) (yq tb AA (yz (Cb U) (C9 FY AA AA AA) rfl ?_));iterate 2 refine yq tb rfl ?_
       rcases Sh.Aa a with ⟨K,a⟩|⟨K,a⟩
       ·refine ys K AA ?_;iterate 5 refine ys K rfl ?_
        refine yt K AA (yq tb AA ?_);iterate 3 refine ys rfl rfl ?_
        refine yt AA AA (yq tb AA ?_);iterate 6 refine ys rfl rfl ?_
        exact yt AA AA (Ao (b6 a (BH [0,1,3] (.w (.w (.p .nil))) (.same AA))))
       ·refine yg tb K AA (bs a λq9 c4 a=>I7 (v:=lr) (GF AA AA K) rfl (HC BE AA c4) (I7 (v:=(i64 q9)) (GF AA AA K) rfl (CL HP AA AA (CM c4) rfl) ?_));iterate 3 refine yg tb K rfl ?_
        refine yf K AA (yq tb AA ?_);rcases Sh.Aa a with ⟨T,a⟩|⟨T,a⟩
        ·refine ys T AA ?_;iterate 2 refine ys T rfl ?_
         refine yt T AA (yq tb AA ?_);iterate 6 refine ys rfl rfl ?_
         exact yt AA AA (Ao (b6 a (BH [0,1,3] (.w (.w (.p .nil))) (.same AA))))
        ·refine yg tb T AA (I7 (v:=(Cb X)) (GF AA AA T) rfl (C9 kC AA AA AA) (yg tb T AA (yf T AA (yq tb AA ?_))));rcases Sh.Aa a with ⟨x,a⟩|⟨x,a⟩
         ·refine ys x AA ?_;iterate 5 refine ys x rfl ?_
          exact yt x AA (Ao (b6 a (BH [0,1,3] (.w (.w (.p .nil))) (.same AA))))
         ·exact yg tb x AA (yg tb x AA (I7 (v:=(Cb p2.kids)) (GF AA AA x) rfl (By bZ AA) (yg tb x AA (I7 (v:=(Cb X)) (GF AA AA x) rfl (C9 kC AA AA AA) (yg tb x AA (yf x AA (Ao (b6 a (BH [0,1,3] (.w (.w (.p .nil))) (.same AA))))))))))
      ·refine AD λt0 k7=>bs h0 λk8 a h0=>?_;have b0:∀{d1},JJ k8 d1 ⟨233,AL [(3,Aq),(5,DW),(8,ow 2 0 U),(190,.bool d1)],lM p0 p2 U⟩ t0:=by
        rintro _ ⟨⟩ s Q;refine k7 _ (AF Q ?_);refine Az h0 ?_ ?_<;>intro w1 h0
        ·refine Al AA ?_;cases h0;exact rd (kJ [])
        ·refine AH (d9 _ (Ai λw2 k9=>Ae 6 AA (D8 [(224,.agg (Dl p0)),(226,i64 p2.op),(228,i64 p2.num),(229,ls eI U)] [⟨0,65,2,[Dl p0]⟩,hH p2.op p2.num p2.Ed p2.args p2.kids,⟨1,3,1,[]⟩] 2 AA ⟨.rfl,.rfl,.rfl,.Bg AA,pw⟩ Cv AA (bs h0 λb8 l0 h0=>Dj (.Dv [i64 b8.1,.bool b8.2]) (hb 189) (JF l0) rfl (Ae 4 AA (Ad k9 ?_))))));cases h0;exact rd [(6,i64 b8.1),(7,.bool b8.2)]
       refine AE AA (Ae 2 AA (Cc AA (Ae 2 AA ?_)));rcases Sh.Aa a with ⟨d,a⟩|⟨d,a⟩
       ·refine zs d AA ?_;iterate 3 refine zs d rfl ?_
        iterate 3 refine zn rfl ?_
        refine zs d AA (zs d AA ?_);iterate 6 refine zn rfl ?_
        refine zs d AA (zs d AA ?_);iterate 9 refine zn rfl ?_
        exact zs d AA (zt d AA (AR AA (AB (b0 a Au))))
       ·refine Am d AA ?_;iterate 3 refine Am d rfl ?_
        rcases Sh.Aa a with ⟨M,a⟩|⟨M,a⟩
        ·refine Am M AA (Am M AA (Am M AA (DQ (.bool (decide (0<=p2.num))) d (Gy AA M AA) (Am d AA ?_))));rcases Sh.Aa a with ⟨O,a⟩|⟨O,a⟩
         ·refine Am O AA ?_;iterate 3 refine Am O rfl ?_
          refine DQ (Cb p0.funcs) O (By gl AA) (Am O AA (DQ (.bool (decide (p2.num<(Sh.len p0.funcs)))) d (Gy AA O AA) (Am d AA ?_)));rcases Sh.Aa a with ⟨q,a⟩|⟨q,a⟩
          ·refine Am q AA ?_;iterate 3 refine Am q rfl ?_
           exact bs a λb9 l1 a=>DQ (.CT (Cj b9) 0) q (JT QC AA l1) (Am q AA (Am q AA (DQ (Cb b9.CE) q (By FY AA) (Am q AA (DQ (.bool (decide (0<(Sh.len b9.CE)))) d (Gy AA q AA) (zf d AA (AR AA (AB (b0 a Au)))))))))
          ·refine zs q AA ?_;iterate 8 refine zs q rfl ?_
           exact DQ (.bool false) d (HE AA q AA) (zf d AA (AR AA (AB (b0 a Au))))
         ·refine zs O AA ?_;iterate 5 refine zs O rfl ?_
          refine DQ (.bool false) d (HE AA O AA) (Am d AA ?_);iterate 9 refine zs rfl rfl ?_
          exact DQ (.bool false) d (HE AA AA AA) (zf d AA (AR AA (AB (b0 a Au))))
        ·refine zs M AA (zs M AA (zs M AA (DQ (.bool false) d (HE AA M AA) (Am d AA ?_))));iterate 6 refine zs rfl rfl ?_
         refine DQ (.bool false) d (HE AA AA AA) (Am d AA ?_);iterate 9 refine zs rfl rfl ?_
         exact DQ (.bool false) d (HE AA AA AA) (zf d AA (AR AA (AB (b0 a Au))))
  refine AE AA (Ae 4 AA ?_);rcases Sh.Aa a with ⟨e,a⟩|⟨e,a⟩
  ·refine Am e AA ?_;iterate 3 refine Am e rfl ?_
   rcases Sh.Aa a with ⟨P,a⟩|⟨P,a⟩
   ·refine zs P AA (zs P AA (zs P AA (DQ (.bool true) e (Gy AA P AA) (Am e AA ?_))));iterate 5 refine zs rfl rfl ?_
    refine DQ (.bool true) e (Gy AA AA AA) (Am e AA ?_);iterate 7 refine zs rfl rfl ?_
    exact DQ (.bool true) e (Gy AA AA AA) (zt e AA (AB (Z a Au)))
   ·refine Am P AA (Am P AA (Am P AA (DQ (.bool (decide (p2.Ed<1))) e (HE AA P AA) (Am e AA ?_))));rcases Sh.Aa a with ⟨A,a⟩|⟨A,a⟩
    ·refine zs A AA ?_;iterate 4 refine zs A rfl ?_
     refine DQ (.bool true) e (Gy AA A AA) (Am e AA ?_);iterate 7 refine zs rfl rfl ?_
     exact DQ (.bool true) e (Gy AA AA AA) (zt e AA (AB (Z a Au)))
    ·refine Am A AA (Am A AA (Am A AA (DQ (Cb p1) A (By FY AA) (Am A AA (DQ (.bool (decide ((Sh.len p1)<p2.Ed))) e (HE AA A AA) (Am e AA ?_))))));rcases Sh.Aa a with ⟨B,a⟩|⟨B,a⟩
     ·refine zs B AA ?_;iterate 6 refine zs B rfl ?_
      exact DQ (.bool true) e (Gy AA B AA) (zt e AA (AB (Z a Au)))
     ·refine Am B AA ?_;iterate 3 refine Am B rfl ?_
      exact bs a λd2 l4 a=>DQ (U0 d2) B (JT BE AA l4) (Am B AA (Am B AA (DQ (.bool (decide (d2=0))) e (HE AA B AA) (zt e AA (AB (Z a Au))))))
  ·refine zs e AA ?_;iterate 3 refine zs e rfl ?_
   iterate 3 refine zn rfl ?_
   refine zs e AA (zs e AA ?_);iterate 5 refine zn rfl ?_
   refine zs e AA (zs e AA ?_);iterate 7 refine zn rfl ?_
   exact zs e AA (zf e AA (AB (Z a Au)))
 refine AJ (KB (CK p1 p2) (λt6 l7=>⟨233,AL [(1,ls eI p1),(3,.ptr 0 0 0 0),(5,.ptr 1 0 0 0),(8,ow 2 0 l7),(20,ls eI p2.args),(21,i64 (Sh.len p2.args)),(22,i64 t6)],[⟨0,65,2,[Dl p0]⟩,hH p2.op p2.num p2.Ed p2.args p2.kids,ro 0 3 1 eI l7]⟩) N 0 [] a Au ?_);intro n t6 l7 a;rw[CK]at a;refine Al AA (AD λw3 l5=>?_);refine Az a ?_ ?_<;>intro w4 a
 ·refine AH (l5 _ (AD λw5 l6=>AJ (Ai λw6 l9=>bs a λm0 m1 a=>Gz BE m1 AA (Ae 2 AA (Ad l9 (AD λw7 m2=>AD λt1 m3=>bs a λm4 V a=>?_))))));have m5:∀{d3},JJ m4 d3 ⟨233,AL (R4 p1 [(8,ow 2 0 l7),(10,i64 m0),(20,ls eI p2.args),(21,i64 (Sh.len p2.args)),(22,i64 t6),(33,.bool d3)]),lM p0 p2 l7⟩ t1:=by
   rintro _ ⟨⟩ s Q;refine m3 _ (AF Q ?_);refine Az a ?_ ?_<;>intro w8 a
   ·refine Al AA ?_;cases a;cases h0;exact rd (kJ [])
   ·refine AH (m2 _ (AE AA (Ae 3 AA (bs a λb1 d4 a=>Gz BE d4 AA (AR AA (CF 3 [b1] eI BE AA (bs a λb2 d5 a=>Lb [b1] BE AA (E8 AA AA) d5 (AR AA (Ad l6 (AE AA (Ae 2 AA ?_)))))))))));exact AB (xi (Sh.w (t6+1),b2) a (by refine Wk.trans (Eh (L:=(R4 p1 [(8,ow 2 0 b2),(20,ls eI p2.args),(21,i64 (Sh.len p2.args)),(22,Kp t6)])) (st':=(lK p0 p2 [BP b2,Kv b1])) (.raw AA AA (.raw AA AA (.pure Bf (.pure Bf .nil)))) (.same AA)) ?_;exact BH [0,1,2] (.w (.w (.p .nil))) (.same AA)))
  refine AE AA (Ae 3 AA ?_);rcases Sh.Aa V with ⟨o,V⟩|⟨o,V⟩
  ·refine zs o AA ?_;iterate 3 refine zs o rfl ?_
   exact zt o AA (AB (m5 V Au))
  ·exact Am o AA (Am o AA (DQ (Cb p1) o (By FY AA) (Am o AA (zf o AA (AB (m5 V Au))))))
 ·exact As (M9 a Au)
theorem Me {N:Nat}{uX:Ah->(List Int)->Block->Option (Int)}(vI :∀{p0:Ah} {p1:(List Int)} {p2:Block} {r:Int},uX p0 p1 p2=some r->Bn 65 [I1 p0,ls eI p1,I0 p2] [] (i64 r) []){p0:Ah}{p1:(List Int)}{p2:Block}{r:Int}(h0:DJ N uX p0 p1 p2=some r):Bn 65 [I1 p0,ls eI p1,I0 p2] [] (i64 r) []:=by
 unfold DJ at h0;refine Cx Tryz.func65 AA (Ai λK1 R=>Et 0 AA (Et 1 AA (AR AA (Ad R (Ai λK2 S=>AR AA (bs h0 λZ T h0=>La (ow 2 0 Z) (Bc T) ⟨(Bj λ_=>AA),pw⟩ (AR AA (Ad S (AD λK4 U=>Ai λK5 V=>Ae 2 AA (Cc AA (AR AA (Ad V ?_))))))))))));obtain⟨W,b,h0⟩:=Sh.BZ h0;have M9:∀{g},JJ W (.inr g) ⟨54,AL [(5,Aq),(7,ow 1 0 g)],[bU p2.steps p2.result,BP g]⟩ K4:=by
  rintro g ⟨⟩ s k;refine U _ (AF k (AD λb0 o=>AD λX p=>bs h0 λq b h0=>?_));have t:∀{i},JJ q i ⟨54,AL [(5,Aq),(7,ow 1 0 g),(48,.bool i)],[bU p2.steps p2.result,BP g]⟩ X:=by
   rintro _ ⟨⟩ s k;refine p _ (AF k ?_);refine Az h0 ?_ ?_<;>intro b1 h0
   ·refine Al AA ?_;obtain rfl:=Sh.Bt h0;exact rd [(6,i64 (-1))]
   ·refine AH (o _ (Ai λb2 u=>Ae 3 AA (bs h0 λx h h0=>zz (Mc p2.result) (HC BE AA h) rfl (zz (i64 x) (CL HP AA AA (CM h) rfl) rfl (AR AA (Ad u ?_))))));obtain rfl:=Sh.Bt h0;exact rd [(6,i64 x)]
  refine AE AA (Ae 4 AA ?_);rcases Sh.Aa b with ⟨a,b⟩|⟨a,b⟩
  ·refine zs a AA ?_;iterate 4 refine zs a rfl ?_
   exact zt a AA (AB (t b Au))
  ·exact Am a AA (Am a AA (Am a AA (DQ (Cb g) a (C9 FY AA AA AA) (Am a AA (zf a AA (AB (t b Au)))))))
 refine AJ (KB (BQ N p0 p2 uX) (λy z=>⟨54,AL [(3,.ptr 0 0 0 0),(5,.ptr 1 0 0 0),(7,ow 2 0 z),(15,ls C8 p2.steps),(16,i64 (Sh.len p2.steps)),(17,i64 y)],[⟨0,65,2,[Dl p0]⟩,bU p2.steps p2.result,ro 0 3 1 eI z]⟩) N 0 Z b Au ?_);intro n y z b;rw[BQ]at b;refine Al AA (AD λb3 A=>?_);refine Az b ?_ ?_<;>intro b4 b
 ·refine AH (A _ (AD λY B=>?_));obtain⟨C,c,b⟩:=Sh.BZ b;have D:∀{f},JJ C (.inr f) ⟨54,AL [(3,Aq),(5,DW),(7,ow 2 0 f),(15,ls C8 p2.steps),(16,i64 (Sh.len p2.steps)),(17,i64 y)],[IM p0,bU p2.steps p2.result,BP f]⟩ Y:=by
   rintro f ⟨⟩ s k;exact B _ (AF k (AE AA (Ae 2 AA (AB (xi (Sh.w (y+1),f) b Au)))))
  refine AJ (Ai λb5 E=>bs c λe F c=>zz (.CT (Tj e) 0) (CI MC AA AA F (Gn _) rfl) rfl (AR AA (Cn 3 P8 AA (Bp Zy AA (Ad E (Ai λb6 G=>Ae 3 AA (bs c λd H c=>OU (v':=(.Dv [i64 d.1,.bool d.2])) AT (hb 120) (Nr vI H) rfl (.val AA (.own AA AA (λ_=>AA) (.val AA .nil))) rfl pw AA AA (Ae 5 AA (Ad G (AD λb7 I=>Al AA ?_))))))))));refine Az c ?_ ?_<;>intro J c
  ·have b8:d.2=false:=by simpa using J
   refine Al AA ?_;cases c;cases b;cases h0;exact rd [(6,i64 (-1))]
  ·have b9:d.2=true:=by simpa using J
   refine AH (I _ (Ai λc0 K=>Ae 2 AA (bs c λM O c=>HX (hb 96) (LO O) rfl (AR AA (Ad K ?_)))));refine Az c ?_ ?_<;>intro P c
   ·have c1:M=false:=by simpa using P
    refine AE AA (Ae 2 AA (CF 4 [d.1] eI BE AA (bs c λj Q c=>Lb [d.1] BE AA (E8 AA AA) Q (AR AA ?_))));exact AB (D c (by refine Wk.trans (Eh (L:=[(3,Aq),(5,DW),(7,ow 2 0 j),(15,ls C8 p2.steps),(16,i64 (Sh.len p2.steps)),(17,i64 y)]) (st':=[IM p0,bU p2.steps p2.result,BP j,hH e.op e.num e.Ed e.args e.kids,Kv d.1]) (.raw AA AA (.raw AA AA (.pure Bf (.raw AA AA (.pure Bf .nil))))) (.same AA)) ?_;exact BH [0,1,2] (.w (.w (.p .nil))) (.same AA)))
   ·have c2:M=true:=by simpa using P
    exact AH (D c (BH [0,1,2] (.w (.w (.p .nil))) (.same AA)))
 ·exact As (M9 b (BH [1,2] (.w (.p .nil)) (.same AA)))
theorem Md {N:Nat}:∀(n:Nat),∀{p0:Ah} {p1:(List Int)} {p2:Block} {r:Int},BM N n p0 p1 p2=some r->Bn 65 [I1 p0,ls eI p1,I0 p2] [] (i64 r) []:=by
 intro n
 induction n with
 | zero=>intro p0 p1 p2 r a;cases a
 | succ n ih=>
  intro p0 p1 p2 r a;rw[BM]at a;exact Me (λh=>ih h) a
theorem Nl {N:Nat}:∀{p0:Ah} {p1:(List Int)} {p2:Block} {r:Int},IG N p0 p1 p2=some r->Bn 65 [I1 p0,ls eI p1,I0 p2] [] (i64 r) []:=by
 intro p0 p1 p2 r a;exact Md N a
theorem Nb {N:Nat}{p0:Ax}{r:Bool}(h0:Ez N p0=some r):Bn 22 [.agg (bw p0)] [] (.bool r) []:=by
 unfold Ez at h0;refine Cx Tryz.func22 AA (Ai λT z=>Et 0 AA (AR AA (Ad z (Ai λU A=>AR AA (bs h0 λe B h0=>Dj (.Dv [I1 e.1,.bool e.2]) (hb 32) (Ss B) rfl (Ae 3 AA (Cn 1 WM AA (Bp Uk AA (AR AA (Ad A (AD λV C=>Al AA ?_)))))))))));refine Az h0 ?_ ?_<;>intro J h0
 ·have W:e.2=false:=by simpa using J
  refine Al AA ?_;cases h0;exact rd [(2,.bool false)]
 ·have X:e.2=true:=by simpa using J
  refine AH (C _ (AD λD h=>Ai λL i=>Ae 2 AA (Cc AA (AR AA (Ad i ?_)))));obtain⟨f,b,h0⟩:=Sh.BZ h0;have E:JJ f (.inr ()) ⟨37,AL [],[]⟩ D:=by
   rintro⟨⟩ s F;refine h _ (AF F (Al AA ?_));cases h0;exact rt [(2,.bool true)]
  refine AJ (Le (FP N p0 e) (λc=>⟨37,AL [(3,.ptr 0 0 0 0),(15,ls DH p0.AU),(16,i64 (Sh.len p0.AU)),(17,i64 c)],[⟨0,65,2,[Dl e.1]⟩]⟩) N 0 b (BH [1] (.w .nil) (.same AA)) ?_);intro n c b;rw[FP]at b;refine Al AA (AD λO j=>?_);refine Az b ?_ ?_<;>intro P b
  ·refine AH (j _ (AD λQ k=>AJ (Ai λR l=>bs b λG o b=>Gz SS o AA (AR AA (Cn 1 WI AA (Bp Zc AA (Ad l (AD λH p=>bs b λq d b=>?_))))))));have t:∀{g},JJ q g ⟨37,AL [(3,Aq),(15,ls DH p0.AU),(16,i64 (Sh.len p0.AU)),(17,i64 c),(35,.bool g)],[IM e.1]⟩ H:=by
    rintro _ ⟨⟩ s F;refine p _ (AF F ?_);refine Az b ?_ ?_<;>intro S b
    ·refine Al AA ?_;cases b;cases h0;exact rd [(2,.bool false)]
    ·exact AH (k _ (AE AA (Ae 2 AA (AB (xi (Sh.w (c+1)) b Au)))))
   refine CZ (by kernel_rfl) (by kernel_rfl) (by rfl) ?_;iterate 2 refine yq tb rfl ?_
   refine bs d λI u d=>Fa (VI u) ?_;iterate 2 refine yq tb rfl ?_
   rcases Sh.Aa d with ⟨a,d⟩|⟨a,d⟩
   ·refine ys a AA ?_;iterate 8 refine ys a rfl ?_
    exact yt a AA (Ao (t d (BH [0] (.w .nil) (.same AA))))
   ·refine yg tb a AA ?_;iterate 4 refine yg tb a rfl ?_
    refine bs d λx y d=>Ls (v:=(i64 x)) (GF AA AA a) (hb 65) (Nl y) rfl AA AA ?_;iterate 3 refine yg tb a rfl ?_
    exact yf a AA (Ao (t d (BH [0] (.w .nil) (.same AA))))
  ·exact As (E b (Bi _ AA))
theorem QW {uT:Bool}{p0:Step}{r:Bool}(h0:HJ uT p0=some r):Bn 121 [.agg (Tj p0),Aq] [Pe uT] (.Dv []) [Pe r]:=by
 unfold HJ at h0;refine Cx Tryz.func121 AA (Ai λe c=>Et 1 AA (Ad c (AE AA (Ae 2 AA ?_))));rcases Sh.Aa h0 with ⟨a,h0⟩|⟨a,h0⟩
 ·refine Am a AA (Am a AA (bs h0 λf d h0=>Oz a (LO d) rfl (Am a AA (zt a AA (AR AA ?_)))));rcases Sh.Aa h0 with ⟨b,h0⟩|⟨b,h0⟩
  ·refine Am b AA (Am b AA (Am b AA (zt b AA (Bp mH AA ?_))));cases h0;exact AB (xr (BH (L:=[]) (st':=[⟨0,4,1,[[.bool (decide (p0.Ed=0))]]⟩]) [0] (.w .nil) pw))
  ·refine zs b AA (zs b AA (zs b AA (zf b AA (Bp mH AA ?_))));cases h0;exact AB (xr (BH (L:=[]) (st':=[⟨0,4,1,[[.bool false]]⟩]) [0] (.w .nil) pw))
 ·refine zs a AA ?_;iterate 3 refine zs a rfl ?_
  refine zf a AA (AR AA ?_);iterate 3 refine zs rfl rfl ?_
  refine zf AA AA (Bp mH AA ?_);cases h0;exact AB (xr (BH (L:=[]) (st':=[⟨0,4,1,[[.bool false]]⟩]) [0] (.w .nil) pw))
theorem Rb {N:Nat}{vE:Bool->Block->Option (Bool)}(wy :∀{uT:Bool} {p0:Block} {r:Bool},vE uT p0=some r->Bn 44 [I0 p0,.fn 121 [Aq]] [Pe uT] (.Dv []) [Pe r]){uT:Bool}{p0:Block}{r:Bool}(h0:Jc N vE uT p0=some r):Bn 44 [I0 p0,.fn 121 [Aq]] [Pe uT] (.Dv []) [Pe r]:=by
 unfold Jc at h0;refine Cx Tryz.func44 AA (Ai λK1 E=>Et 1 AA (Ad E (Ai λK2 F=>Ae 2 AA (Cc AA (AR AA (Ad F (ZX λP G=>bs h0 λH b h0=>?_)))))));have Q:∀I,H=I->∀s,Wk 1 s ⟨30,AL [],[Pe I]⟩->P s:=by
  intro I R s J;subst H;refine G _ ?_;cases h0;exact Exists.intro _ (And.intro (J.trans (Dh [] pw)) (And.intro AA AA))
 refine AJ (KB (EC N p0 vE) (λj k=>⟨30,AL [(1,.fn 121 [.ptr 0 0 0 0]),(9,ls C8 p0.steps),(10,i64 (Sh.len p0.steps)),(11,i64 j)],[Pe k]⟩) N 0 uT b (BH [0] (.w .nil) (.same AA)) ?_);intro n j k b;rw[EC]at b;refine Al AA (AD λK9 K=>?_);refine Az b ?_ ?_<;>intro S b
 ·refine AH (K _ (AD λM o=>AJ (Ai λT p=>bs b λa q b=>zz (.CT (Tj a) 0) (CI MC AA AA q (Gn _) rfl) rfl (AR AA (Cn 1 P8 AA (Bp Zy AA (Ad p (Ai λU t=>Ae 2 AA (bs b λd u b=>eC (rowsP:=[Pe k]) (rows0:=[Pe k]) (rows1:=[Pe d]) (rows2:=[]) (rows1':=[Pe d]) (rows2':=[]) (st':=[Pe d,hH a.op a.num a.Ed a.args a.kids]) (v':=(.Dv [])) [0] AT AA (hb 121) (QW u) rfl (by decide) rfl AA (.raw AA AA .nil) rfl AA (.raw AA AA .nil) .nil AA AA (Ad t (Ai λV x=>Ae 2 AA (Cc AA (AR AA (Ad x (bs b λg c b=>?_)))))))))))))));have O:∀e,g=e->∀s,Wk 1 s ⟨30,AL [(1,.fn 121 [Aq]),(9,ls C8 p0.steps),(10,i64 (Sh.len p0.steps)),(11,i64 j)],[Pe e]⟩->M s:=by
   intro e R s J;subst g;exact o _ (AF J (AE AA (Ae 2 AA (AB (xi (Sh.w (j+1),e) b Au)))))
  refine AJ (KB (EE a vE) (λh f=>⟨30,AL [(1,.fn 121 [.ptr 0 0 0 0]),(9,ls C8 p0.steps),(10,i64 (Sh.len p0.steps)),(11,i64 j),(19,ls EZ a.kids),(20,i64 (Sh.len a.kids)),(21,i64 h)],[Pe f]⟩) N 0 d c (BH [0] (.w .nil) (.same AA)) ?_);intro n h f c;rw[EE]at c;refine Al AA (AD λW y=>?_);refine Az c ?_ ?_<;>intro X c
  ·exact AH (y _ (AD λY z=>AJ (Ai λZ A=>bs c λB C c=>Gz Rv C AA (AR AA (Cn 1 Rj AA (Bp WR AA (Ad A (AE AA (Ae 2 AA (bs c λi D c=>IE [Pe i,bU B.steps B.result] (.Dv []) [0] AT (hb 44) (wy D) rfl AA (Ad z (AE AA (Ae 2 AA (AB (xi (Sh.w (h+1),i) c (BH [0] (.w .nil) (.same AA)))))))))))))))))
  ·exact As (O f (BU c) _ Au)
 ·exact As (Q k (BU b) _ Au)
theorem RX {N:Nat}:∀(n:Nat),∀{uT:Bool} {p0:Block} {r:Bool},GN N n uT p0=some r->Bn 44 [I0 p0,.fn 121 [Aq]] [Pe uT] (.Dv []) [Pe r]:=by
 intro n
 induction n with
 | zero=>intro uT p0 r a;cases a
 | succ n ih=>
  intro uT p0 r a;rw[GN]at a;exact Rb (λh=>ih h) a
theorem TB {N:Nat}:∀{uT:Bool} {p0:Block} {r:Bool},Mq N uT p0=some r->Bn 44 [I0 p0,.fn 121 [Aq]] [Pe uT] (.Dv []) [Pe r]:=by
 intro uT p0 r a;exact RX N a
theorem RP {N:Nat}{p0:Block}{r:Bool}(h0:H9 N p0=some r):Bn 63 [I0 p0] [] (.bool r) []:=by
 unfold H9 at h0;refine Cx Tryz.func63 AA (Ai λf a=>Et 0 AA (AR AA (Ad a (Ai λg b=>Cn 1 pT AA (Bp mH AA (Ad b (Ai λh c=>AR AA (zz (.fn 121 [DW]) (nH AA) rfl (bs h0 λd e h0=>IE [bU p0.steps p0.result,Pe d] (.Dv []) [1] AT (hb 44) (TB e) rfl AA (Ad c (Al AA ?_)))))))))));obtain rfl:=Sh.Bt h0;exact rd [(2,.bool d)]
theorem U9 {N:Nat}{p0:Ax}{r:Bool}(h0:I4 N p0=some r):Bn 21 [.agg (bw p0)] [] (.bool r) []:=by
 unfold I4 at h0;refine Cx Tryz.func21 AA (Ai λM o=>Et 0 AA (AR AA (Ad o (AD λO p=>Ai λP q=>AR AA (bs h0 λy t h0=>HX (hb 22) (Nb t) rfl (AR AA (Ad q ?_)))))));refine Az h0 ?_ ?_<;>intro z h0
 ·have Q:y=false:=by simpa using z
  refine Al AA ?_;cases h0;exact rd [(2,.bool false)]
 ·have R:y=true:=by simpa using z
  refine AH (p _ (AD λB u=>Ai λC d=>Ae 2 AA (Cc AA (AR AA (Ad d ?_)))));obtain⟨b,a,h0⟩:=Sh.BZ h0;have x:JJ b (.inr ()) ⟨20,AL [],[]⟩ B:=by
   rintro⟨⟩ s D;refine u _ (AF D (Al AA ?_));cases h0;exact rt [(2,.bool true)]
  refine AJ (Le (G5 N p0) (λc=>⟨20,AL [(9,ls DH p0.AU),(10,i64 (Sh.len p0.AU)),(11,i64 c)],[]⟩) N 0 a (Bi _ AA) ?_);intro n c a;rw[G5]at a;refine Al AA (AD λE e=>?_);refine Az a ?_ ?_<;>intro F a
  ·refine AH (e _ (AD λG f=>AJ (Ai λH g=>bs a λI h a=>Gz SS h AA (AR AA (Cn 0 WI AA (Bp Zc AA (Ad g (Ai λJ i=>Ae 2 AA (bs a λj k a=>HX (hb 63) (RP k) rfl (AR AA (Ad i ?_)))))))))));refine Az a ?_ ?_<;>intro l a
   ·have K:j=false:=by simpa using l
    refine Al AA ?_;cases a;cases h0;exact rd [(2,.bool false)]
   ·have L:j=true:=by simpa using l
    exact AH (f _ (AE AA (Ae 2 AA (AB (xi (Sh.w (c+1)) a (Bi _ AA))))))
  ·exact As (x a Au)
theorem R5 {N:Nat}{p0:(List Int)}{r:Bool}(h0:KD N p0=some r):Bn 6 [ls Fi p0] [] (.bool r) []:=by
 unfold KD at h0;refine Cx Tryz.func6 AA (Al AA (AD λK2 b7=>Ai λK3 b8=>AR AA (Cc AA (AR AA (Ad b8 ?_)))));refine Az h0 ?_ ?_<;>intro b4 h0
 ·refine Al AA ?_;cases h0;exact rt [(2,.bool true)]
 ·refine AH (b7 _ (Ai λK6 b9=>AR AA (bs h0 λi c0 h0=>Dj (Jn i.decls i.funcs) (hb 16) (Q2 c0) rfl (Cn 0 YJ AA (Bp IL AA (Ad b9 (Ai λK8 c1=>AR AA (bs h0 λd c2 h0=>Dj (.Dv [.agg (br d.1.decls d.1.AU),.bool d.2]) (hb 17) (Tt c2) rfl (Ae 3 AA (Cn 1 SE AA (Bp PT AA (AR AA (Ad c1 (Ai λd1 D=>AR AA (bs h0 λj E h0=>Dj (.Dv [.agg (br j.1.decls j.1.AU),.bool j.2]) (hb 18) (Tc E) rfl (Ae 3 AA (Cn 2 SE AA (Bp PT AA (AR AA (Ad D (AD λd2 F=>AD λc3 G=>bs h0 λH a h0=>?_)))))))))))))))))))));have u:∀{x},JJ H x ⟨107,AL [(3,Aq),(4,DW),(5,.bool d.2),(6,Ca),(7,.bool j.2),(37,.bool x)],[ke i.decls i.funcs,gw d.1.decls d.1.AU,gw j.1.decls j.1.AU]⟩ c3:=by
   rintro _ ⟨⟩ s o;refine G _ (AF o ?_);refine Az h0 ?_ ?_<;>intro d3 h0
   ·refine AD λc4 I=>bs h0 λJ a h0=>?_;have K:∀{p},JJ J p ⟨107,AL [(2,.bool p)],[]⟩ c4:=by
     rintro _ ⟨⟩ s o;try dsimp only at h0
     refine I _ (AF o ?_);obtain rfl:=Sh.Bt h0;exact rt [(2,.bool J)]
    refine AE AA (Ae 2 AA (bs a λd4 L a=>HX (hb 19) (NT L) rfl (AR AA ?_)));rcases Sh.Aa a with ⟨e,a⟩|⟨e,a⟩
    ·exact Am e AA (Am e AA (Am e AA (zt e AA (AR AA (AB (K a (Bi _ AA)))))))
    ·exact zs e AA (zs e AA (zs e AA (zf e AA (AR AA (AB (K a (Bi _ AA)))))))
   ·refine AH (F _ (AD λd5 M=>AD λc5 O=>bs h0 λP a h0=>?_));have y:∀{z},JJ P z ⟨107,AL [(3,Aq),(4,DW),(62,.bool z)],[ke i.decls i.funcs,gw d.1.decls d.1.AU]⟩ c5:=by
     rintro _ ⟨⟩ s o;refine O _ (AF o ?_);refine Az h0 ?_ ?_<;>intro d6 h0
     ·refine Al AA ?_;cases h0;exact rd [(2,.bool false)]
     ·refine AH (M _ (AD λc6 Q=>Al AA ?_));obtain⟨A,a,h0⟩:=Sh.BZ h0;have c7:JJ A (.inr ()) ⟨107,AL [(3,Aq),(4,DW)],[ke i.decls i.funcs,gw d.1.decls d.1.AU]⟩ c6:=by
       rintro⟨⟩ s o;try dsimp only at h0
       refine Q _ (AF o (Ai λd7 R=>Ae 4 AA (bs h0 λc8 S h0=>HX (hb 24) (N4 S) rfl (AR AA (Ad R ?_)))));obtain rfl:=Sh.Bt h0;exact rd [(2,.bool c8)]
      refine AJ (Le (EX N i d) (λq=>⟨107,AL [(3,.ptr 0 0 0 0),(4,.ptr 1 0 0 0),(8,i64 q)],[ke i.decls i.funcs,gw d.1.decls d.1.AU]⟩) N 0 a Au ?_);intro n q a;rw[EX]at a;refine AD λd8 T=>Ai λd9 U=>Ae 3 AA (Cc AA (AR AA (Ad U ?_)));refine Az a ?_ ?_<;>intro g0 a
      ·refine AH (T _ (AD λg1 V=>AJ (Ai λg2 W=>Ae 3 AA (bs a λg3 X a=>Gz SS X AA (AR AA (Cn 2 WI AA (Bp Zc AA (Ad W (AD λc9 Y=>bs a λZ l a=>?_)))))))));have B:∀{C},JJ Z C ⟨107,AL [(3,Aq),(4,DW),(8,i64 q),(101,.bool C)],[ke i.decls i.funcs,gw d.1.decls d.1.AU]⟩ c9:=by
        rintro _ ⟨⟩ s o;refine Y _ (AF o ?_);refine Az a ?_ ?_<;>intro g4 a
        ·refine Al AA ?_;cases a;cases h0;exact rd [(2,.bool false)]
        ·exact AH (V _ (AE AA (Ae 3 AA (AB (xi (Sh.w (q+1)) a Au)))))
       refine CZ (by kernel_rfl) (by kernel_rfl) (by rfl) ?_;iterate 2 refine yq tb rfl ?_
       refine yl tb AA AA ?_;iterate 2 refine yq tb rfl ?_
       rcases Sh.Aa l with ⟨f,l⟩|⟨f,l⟩
       ·refine ys f AA ?_;iterate 8 refine ys f rfl ?_
        refine yt f AA (yq tb AA ?_);iterate 10 refine ys rfl rfl ?_
        exact yt AA AA (Ao (B l (BH [0,1] (.w (.w .nil)) (.same AA))))
       ·refine yg tb f AA ?_;iterate 4 refine yg tb f rfl ?_
        refine bs l λb0 t l=>I7 (v:=(Z7 b0)) (GF AA AA f) rfl (JT Ee AA t) ?_;iterate 3 refine yg tb f rfl ?_
        refine yf f AA (yq tb AA ?_);rcases Sh.Aa l with ⟨c,l⟩|⟨c,l⟩
        ·refine ys c AA ?_;iterate 9 refine ys c rfl ?_
         exact yt c AA (Ao (B l (BH [0,1] (.w (.w .nil)) (.same AA))))
        ·refine yg tb c AA ?_;iterate 4 refine yg tb c rfl ?_
         refine I7 (v:=(Z7 b0)) (GF AA AA c) rfl (JT Ee AA t) ?_;iterate 2 refine yg tb c rfl ?_
         exact bs l λb1 b2 l=>Ls (v:=(.bool b1)) (GF AA AA c) (hb 23) (H5 b2) rfl AA AA (yg tb c AA (yf c AA (Ao (B l (BH [0,1] (.w (.w .nil)) (.same AA))))))
      ·exact As (c7 a Au)
    refine AE AA (AR AA (bs a λg5 b3 a=>HX (hb 21) (U9 b3) rfl (Ae 2 AA ?_)));rcases Sh.Aa a with ⟨g,a⟩|⟨g,a⟩
    ·refine zs g AA (zs g AA (zs g AA (zt g AA (AR AA ?_))));iterate 7 refine zs rfl rfl ?_
     exact zt AA AA (AB (y a (BH [0,1] (.w (.w .nil)) (.same AA))))
    ·refine Am g AA (bs a λg6 b5 a=>Oz g (Nb b5) rfl (Am g AA (zf g AA (AR AA ?_))));rcases Sh.Aa a with ⟨b,a⟩|⟨b,a⟩
     ·refine zs b AA ?_;iterate 6 refine zs b rfl ?_
      exact zt b AA (AB (y a (BH [0,1] (.w (.w .nil)) (.same AA))))
     ·exact Am b AA (Am b AA (DQ (Cb d.1.AU) b (By kL AA) (Am b AA (Am b AA (DQ (Cb i.funcs) b (By Zd AA) (Am b AA (zf b AA (AB (y a (BH [0,1] (.w (.w .nil)) (.same AA)))))))))))
  refine AE AA (Ae 2 AA (bs a λg7 b6 a=>HX (hb 19) (NT b6) rfl (Ae 2 AA ?_)));rcases Sh.Aa a with ⟨h,a⟩|⟨h,a⟩
  ·exact zs h AA (zs h AA (zs h AA (zt h AA (AR AA (zs AA AA (zs AA AA (zt AA AA (AB (u a Au)))))))))
  ·refine Am h AA (Am h AA (Am h AA (zf h AA (AR AA ?_))));rcases Sh.Aa a with ⟨k,a⟩|⟨k,a⟩
   ·exact zs k AA (zs k AA (zt k AA (AB (u a Au))))
   ·exact Am k AA (Am k AA (zf k AA (AB (u a Au))))
end Go.Proofs.YtccficmcdkcpnaaGreat
