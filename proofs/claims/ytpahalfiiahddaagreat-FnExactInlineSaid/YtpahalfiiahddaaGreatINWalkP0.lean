import Derived.Test.YtpahalfiiahddaaGreatProg
import Derived.Test.YtpahalfiiahddaaGreatGAbsXToAbsZN
import Derived.Test.YtpahalfiiahddaaGreatGAbsZPToSSDefs
import Derived.Test.YtpahalfiiahddaaGreatGHADefsToINDefs
import Derived.Test.YtpahalfiiahddaaGreatAbsQ
import Derived.Test.YtpahalfiiahddaaGreatCFWalk
import Derived.Test.YtpahalfiiahddaaGreatLAWalk
namespace Go.Proofs.YtpahalfiiahddaaGreat
open Go Go.Abs RC
attribute [local irreducible] Go.Abs.DF
set_option maxRecDepth 100000
theorem Gp:([6,8,10,11,12,15,16,17,18,19,21,22,23,24,25,27,28,29,30,31,32,36,37,38,39,40,41,42,43,44,45,46,47,48,49,50,51,52,53,54,55,56,57,58,59,60,61,62,63,64,65,66,69,70,71,72,73,74,75,76,77,78,79,81,82,83,84,85,86,87,88,89,90,91,92,93,94,95,96,97,98,99,100,101,102,103,104,105,106,107,108,109,110,112,113,114,115,116,117,119,120,121,122,123,124,125,126,127,128,131,132,133,135,136,137,138,139,140,141].all fun n=>DI Tryz.prog n)=true:=by kernel_rfl
theorem hb (n:Nat) (h:[6,8,10,11,12,15,16,17,18,19,21,22,23,24,25,27,28,29,30,31,32,36,37,38,39,40,41,42,43,44,45,46,47,48,49,50,51,52,53,54,55,56,57,58,59,60,61,62,63,64,65,66,69,70,71,72,73,74,75,76,77,78,79,81,82,83,84,85,86,87,88,89,90,91,92,93,94,95,96,97,98,99,100,101,102,103,104,105,106,107,108,109,110,112,113,114,115,116,117,119,120,121,122,123,124,125,126,127,128,131,132,133,135,136,137,138,139,140,141].contains n=true:=by decide):DI Tryz.prog n=true:=List.all_eq_true.1 Gp n (List.contains_iff_mem.1 h)
noncomputable abbrev Je (z0:List Ab) (z1:List Ah):Go.Abs.Row:=⟨0,30,2,[[(ls AT z0),(ls Ar z1)]]⟩
noncomputable abbrev Py (z0:Int) (z1:Int) (z2:List AD):Go.Abs.Row:=⟨0,44,3,[[(i64 z0),(i64 z1),(ls A4 z2)]]⟩
noncomputable abbrev On (z0:Int):Go.Abs.Row:=⟨0,3,1,[[(i64 z0)]]⟩
noncomputable abbrev Pm:Go.Abs.Row:=⟨0,30,2,[[.zc,.zc]]⟩
noncomputable abbrev aY:Go.Abs.Row:=⟨0,44,3,[[(i64 0),(i64 0),.zc]]⟩
noncomputable abbrev Ym:Go.Abs.Row:=⟨0,119,2,[[.zc,.zc]]⟩
noncomputable abbrev Iv (z0:Int) (z1:Int) (z2:List AD):Go.Abs.Row:=⟨0,44,3,[[(i64 z0),(i64 z1),(ls A4 z2)]]⟩
noncomputable abbrev Qc:Go.Abs.Row:=⟨0,81,3,[[(i64 0),(i64 0),.zc]]⟩
noncomputable abbrev YS (z0:List Ab) (z1:List Ah):Go.Abs.Row:=⟨0,30,2,[[(ls AT z0),(ls Ar z1)]]⟩
noncomputable abbrev CQ (z0:List Ab) (z1:List Ah):Go.Abs.Row:=⟨0,30,2,[[(ls AT z0),(ls Ar z1)]]⟩
noncomputable abbrev D1:Go.Abs.Row:=⟨0,44,3,[[(i64 0),(i64 0),.zc]]⟩
noncomputable abbrev C0 (z0:Int):Go.Abs.Row:=⟨0,3,1,[[(i64 z0)]]⟩
noncomputable abbrev I1:Go.Abs.Row:=⟨0,30,2,[[.zc,.zc]]⟩
noncomputable abbrev dO (z0:Int) (z1:Int) (z2:List AD):Go.Abs.Row:=⟨0,44,3,[[(i64 z0),(i64 z1),(ls A4 z2)]]⟩
noncomputable abbrev Bz (z0:List Ab) (z1:List Ah):Go.Abs.Row:=⟨0,30,2,[[(ls AT z0),(ls Ar z1)]]⟩
noncomputable abbrev Bx (z0:Int):Go.Abs.Row:=⟨0,3,1,[[(i64 z0)]]⟩
noncomputable abbrev Cd:Go.Abs.Row:=⟨0,30,2,[[.zc,.zc]]⟩
noncomputable abbrev KQ (z0:List Ab) (z1:List Ah):Go.Abs.Row:=⟨0,30,2,[[(ls AT z0),(ls Ar z1)]]⟩
noncomputable abbrev U9 (z0:List Ab) (z1:List Ah):Go.Abs.Row:=⟨0,25,2,[[(ls AT z0),(ls Ar z1)]]⟩
noncomputable abbrev Oz (z0:Int):Go.Abs.Row:=⟨0,3,1,[[(i64 z0)]]⟩
noncomputable abbrev ck (z0:AD):=([(i64 z0.op),(i64 z0.num),(ls A4 z0.kids)]:List AV)
noncomputable abbrev fV (z0:AN):=([(ls AT z0.decls),(ls Ar z0.funcs)]:List AV)
noncomputable abbrev Am:=((.ptr 0 0 0 0):AV)
noncomputable abbrev Aq:=((.ptr 1 0 0 0):AV)
noncomputable abbrev Oe (z0:_) (z1:_) (z2:Ah):=(⟨0,48,5,hole z0 (A2 3 44) z1 [(ow 6 0 z2.params),(i64 z2.result),(i64 z2.body.op),(i64 z2.body.num),(.dv 44 3 (List.map (Au 44) z2.body.kids))]⟩:Row)
noncomputable abbrev CI (z0:_):=((ro 0 44 3 (Au 44) z0):Row)
noncomputable abbrev Er (z0:_):=(⟨0,119,2,[(FN z0)]⟩:Row)
noncomputable abbrev BD:=((.ptr 2 0 0 0):AV)
noncomputable abbrev CM (z0:_):=((ro 0 48 5 (A2 3 44) z0):Row)
noncomputable abbrev Oo (z0:_) (z1:_) (z2:Ah):=(⟨0,48,5,hole z0 (A2 3 44) z1 [(ow 6 0 z2.params),(i64 z2.result),(i64 z2.body.op),(i64 z2.body.num),(ow 7 0 z2.body.kids)]⟩:Row)
noncomputable abbrev DU (z0:AD):=((ro 0 44 3 (Au 44) z0.kids):Row)
noncomputable abbrev PM (z0:AD):=([(i64 z0.op),(i64 z0.num),(ow 3 0 z0.kids)]:List AV)
noncomputable abbrev BB (z0:_):=((ro 0 3 1 eI z0):Row)
noncomputable abbrev Mg (z0:_) (z1:_) {α2:Type} (z2:List α2):=(⟨0,44,3,[[(i64 z0),(i64 z1),(ow 0 0 z2)]]⟩:Row)
noncomputable abbrev Bg:=((.ptr 3 0 0 0):AV)
noncomputable abbrev FD (z0:_):=((ro 0 81 3 (Ad 111 3) z0):Row)
noncomputable abbrev C8:=(⟨1,44,3,[]⟩:Row)
noncomputable abbrev E8 (z0:_):=((.ptr 5 0 (Int.toNat z0) 0):AV)
noncomputable abbrev Nh (z0:AD) (z1:_) {α2:Type} (z2:List α2):=(⟨0,44,3,[[(i64 z0.op),(i64 z1),(ow 1 0 z2)]]⟩:Row)
noncomputable abbrev Xp (z0:_) (z1:_) (z2:Ah):=(⟨0,48,5,hole z0 (A2 3 44) z1 [(.dv 3 1 (List.map eI z2.params)),(i64 z2.result),(i64 z2.body.op),(i64 z2.body.num),(ow 6 0 z2.body.kids)]⟩:Row)
noncomputable abbrev OF (z0:Ah):=((.agg [(i64 z0.body.op),(i64 z0.body.num),(ow 6 0 z0.body.kids)]):AV)
noncomputable abbrev T6 (z0:Ah):=([(ls eI z0.params),(i64 z0.result),(i64 z0.body.op),(i64 z0.body.num),(ls A4 z0.body.kids)]:List AV)
noncomputable abbrev B0 {α0:Type} (z0:List α0):=((i64 (Sh.len z0)):AV)
noncomputable abbrev Bt (z0:_):=((.agg (ck z0)):AV)
noncomputable abbrev Iu (z0:Ah):=((ro 0 44 3 (Au 44) z0.body.kids):Row)
noncomputable abbrev Bf (z0:_):=((ls AT z0):AV)
noncomputable abbrev KM {α0:Type} (z0:List α0) {α1:Type} (z1:List α1):=(⟨0,30,2,[[(ow 2 0 z0),(ow 3 0 z1)]]⟩:Row)
noncomputable abbrev VA:=([(.sl (List.map AT [])),(.sl (List.map Ar []))]:List AV)
noncomputable abbrev Yo (z0:AD):=([(i64 z0.op),(i64 z0.num),(ow 0 0 z0.kids)]:List AV)
noncomputable abbrev Df (z0:_):=((.Bd (fV z0) 0):AV)
noncomputable abbrev F9 (z0:_):=((.agg (FN z0)):AV)
noncomputable abbrev Ov (z0:_):=([⟨0,131,1,[[(ow 1 0 z0)]]⟩,(ro 0 4 1 eB z0)]:List Row)
noncomputable abbrev E7:=((.ptr 3 0 0 1):AV)
noncomputable abbrev VK (z0:Ah):=((.agg [(i64 z0.body.op),(i64 z0.body.num),(ls A4 z0.body.kids)]):AV)
noncomputable abbrev Fc:=((.ptr 4 0 0 0):AV)
noncomputable abbrev Ls (z0:_) (z1:_) (z2:_) (z3:_) (z4:_) (z5:_):=([(CI z0),(C0 z1),(CQ z2 z3),(Mg z4 z5 z0),D1]:List Row)
noncomputable abbrev VE (z0:Ah):=((.agg [(i64 z0.body.op),(i64 z0.body.num),(ow 7 0 z0.body.kids)]):AV)
noncomputable abbrev PL (z0:AD):=([(i64 z0.op),(i64 z0.num),(ow 5 0 z0.kids)]:List AV)
noncomputable abbrev W6 (z0:_):=([⟨0,131,1,[[(.own 1 0 (List.length z0))]]⟩,⟨0,4,1,List.map eB z0⟩]:List Row)
noncomputable abbrev Ff (z0:_):=((.Bd (ck z0) 0):AV)
noncomputable abbrev P4 (z0:_):=(⟨0,81,3,List.map (Ad 111 3) z0⟩:Row)
noncomputable abbrev PR (z0:_):=(⟨0,48,5,List.map (A2 3 44) z0⟩:Row)
noncomputable abbrev Zg (z0:Ah):=([(ow 7 0 z0.params),(i64 z0.result),(i64 z0.body.op),(i64 z0.body.num),(ow 6 0 z0.body.kids)]:List AV)
noncomputable abbrev cb (z0:AD):=(⟨0,44,3,[[(i64 z0.op),(i64 z0.num),(ow 4 0 z0.kids)]]⟩:Row)
noncomputable abbrev EY (z0:_):=((ls A4 z0):AV)
noncomputable abbrev R4 (z0:_) (z1:_) (z2:_):=(⟨0,44,3,hole z0 (Au 44) z1 (PM z2)⟩:Row)
noncomputable abbrev Jb (z0:AD):=((i64 (Sh.len z0.kids)):AV)
noncomputable abbrev QM (z0:AN):=((ro 0 48 5 (A2 3 44) z0.funcs):Row)
noncomputable abbrev RD (z0:_) (z1:_):=((.DE [(.agg (AT z0)),(.bool z1)]):AV)
noncomputable abbrev Us:=((.own 0 0 (List.length ([]:List Int))):AV)
noncomputable abbrev IJ (z0:AD):=((ls A4 z0.kids):AV)
noncomputable abbrev HH (z0:_):=((.agg (fV z0)):AV)
noncomputable abbrev NR (z0:_):=((.ptr 0 0 (Int.toNat z0) 0):AV)
noncomputable abbrev XQ:=((ro 0 81 3 (Ad 111 3) ([]:List Ab)):Row)
noncomputable abbrev Ka (z0:_):=((i64 (Sh.w (z0+1))):AV)
noncomputable abbrev cr (z0:Ah):=([(ow 6 0 z0.params),(i64 z0.result),(i64 z0.body.op),(i64 z0.body.num),(ow 7 0 z0.body.kids)]:List AV)
noncomputable abbrev Gc (z0:_):=((ls (eS eI) z0):AV)
noncomputable abbrev V2 (z0:_) (z1:_) {α2:Type} (z2:List α2):=(⟨0,44,3,[[(i64 z0),(i64 z1),(ow 5 0 z2)]]⟩:Row)
noncomputable abbrev LM (z0:AN):=((ls Ar z0.funcs):AV)
noncomputable abbrev WS:=([(.sl (List.map AT [])),.zc]:List AV)
noncomputable abbrev cx (z0:Ah):=([(ow 0 0 z0.params),(i64 z0.result),(i64 z0.body.op),(i64 z0.body.num),(ow 1 0 z0.body.kids)]:List AV)
noncomputable abbrev cN (z0:_) (z1:_):=([(FD z0),(CM z1),⟨0,30,2,[[(ow 0 0 z0),(ow 1 0 z1)]]⟩]:List Row)
noncomputable abbrev Sp (z0:_):=(⟨0,81,3,[(AT z0)]⟩:Row)
noncomputable abbrev RW (z0:_):=((.ptr 5 0 (Int.toNat z0) 2):AV)
noncomputable abbrev Wi (z0:_) (z1:AD):=([(Er z0),(Py z1.op z1.num z1.kids)]:List Row)
noncomputable abbrev Zo:=((ro 0 48 5 (A2 3 44) ([]:List Ah)):Row)
noncomputable abbrev XV (z0:_) (z1:_) (z2:AD):=([(BB z0),(Er z1),(Iv z2.op z2.num z2.kids)]:List Row)
noncomputable abbrev Rf (z0:_) (z1:_) {α2:Type} (z2:List α2):=([(i64 z0),(i64 z1),(ow 3 0 z2)]:List AV)
noncomputable abbrev Zr (z0:_) (z1:_) (z2:_) (z3:AD):=([(Nh z0 z1 z2),(CI z2),D1,(dO z3.op z3.num z3.kids)]:List Row)
noncomputable abbrev VC:=((.sl (List.map eI [])):AV)
noncomputable abbrev ea:=([(.own 2 0 (List.length ([]:List Ab))),(.own 3 0 (List.length ([]:List Ah)))]:List AV)
noncomputable abbrev dy:=([(.own 0 0 (List.length ([]:List Ab))),(.own 1 0 (List.length ([]:List Ah)))]:List AV)
noncomputable abbrev Ws (z0:_) (z1:_):=([(Bf z0),(ls Ar z1)]:List AV)
noncomputable abbrev P0:=((.ptr 1 0 0 1):AV)
noncomputable abbrev Z4 (z0:_):=(⟨0,44,3,List.map (Au 44) z0⟩:Row)
noncomputable abbrev UY (z0:_) (z1:_) (z2:_):=([(HH z0),(ls eI z1),(Bt z2)]:List AV)
noncomputable abbrev RL:=((.ptr 5 0 0 0):AV)
noncomputable abbrev RQ:=((.ptr 4 0 0 2):AV)
noncomputable abbrev WK:=([⟨1,3,1,[]⟩]:List Row)
noncomputable abbrev Zh (z0:_) (z1:_) (z2:_) (z3:_):=([(Nh z0 z1 z2),(CI z2),D1,(cb z3),(DU z3)]:List Row)
noncomputable abbrev cv:=([(i64 0),(i64 0),(.sl (List.map BR []))]:List AV)
noncomputable abbrev QD (z0:_):=((ro 0 3 1 eI [z0]):Row)
noncomputable abbrev dN (z0:_) (z1:_) (z2:_) {α3:Type} (z3:List α3) (z4:_):=([(Bf z0),(.agg [(i64 z1),(i64 z2),(ow 0 0 z3)]),(i64 z4),(.fn 39 [Aq,BD])]:List AV)
noncomputable abbrev WJ:=(⟨1,81,3,[]⟩:Row)
noncomputable abbrev Th (z0:_):=((ro 0 44 3 A4 z0):Row)
noncomputable abbrev ZG (z0:_) (z1:_) {α2:Type} (z2:List α2):=((.agg [(i64 z0),(i64 z1),(ow 6 0 z2)]):AV)
noncomputable abbrev Xv (z0:_):=((ro 0 111 1 (CA 3) z0):Row)
noncomputable abbrev du (z0:AN):=([[(.sl (List.map AT z0.decls)),(.sl (List.map Ar z0.funcs))]]:List (List AV))
noncomputable abbrev Uu {α0:Type} (z0:List α0) {α1:Type} (z1:List α1):=([(ow 0 0 z0),(ow 1 0 z1)]:List AV)
noncomputable abbrev bO {α0:Type} (z0:List α0) {α1:Type} (z1:List α1):=(⟨0,30,2,[[(ow 1 0 z0),(ow 3 0 z1)]]⟩:Row)
noncomputable abbrev Zu (z0:AD) (z1:_):=([(i64 z0.op),(i64 z0.num),(EY z1)]:List AV)
noncomputable abbrev dC (z0:Ab):=([(i64 z0.from_),(i64 z0.to),(ow 0 0 z0.cons)]:List AV)
noncomputable abbrev Ox (z0:_):=((.agg (Yo z0)):AV)
noncomputable abbrev Z7:=(⟨0,30,2,[VA]⟩:Row)
noncomputable abbrev Zn (z0:_):=(⟨0,3,1,List.map eI z0⟩:Row)
noncomputable abbrev aT (z0:_) (z1:_) {α2:Type} (z2:List α2):=((.agg [(i64 z0),(i64 z1),(ow 8 0 z2)]):AV)
noncomputable abbrev WA:=((.ptr 3 0 0 2):AV)
noncomputable abbrev WW (z0:_) (z1:_) (z2:_):=([(Bt z0),(i64 z1),(i64 z2)]:List AV)
noncomputable abbrev aV (z0:_) (z1:_) (z2:_):=((.DE [(.agg (Ws z0 z1)),(.bool z2)]):AV)
noncomputable abbrev XJ (z0:Ab):=((i64 (Sh.len z0.cons)):AV)
noncomputable abbrev PT (z0:_):=((.agg (PM z0)):AV)
set_option maxHeartbeats 4000000

def tb:Kg Tryz.prog where
 t:=[(111,true,1),(114,false,1),(116,true,3),(119,true,2),(131,false,1),(135,true,1),(22,false,1),(23,false,1),(25,true,2),(27,false,1),(28,false,1),(3,false,1),(30,true,2),(4,false,1),(42,false,1),(44,true,3),(46,false,1),(48,true,5),(65,false,1),(67,true,3),(69,false,1),(71,true,3),(73,true,5),(79,false,1),(81,true,3)]
 f:=[(111,0,0),(116,0,0),(116,1,1),(116,2,2),(119,0,0),(119,1,1),(135,0,0),(25,0,0),(25,1,1),(30,0,0),(30,1,1),(44,0,0),(44,1,1),(44,2,2),(48,0,0),(48,1,1),(48,2,2),(67,0,0),(67,1,1),(67,2,2),(71,0,0),(71,1,1),(71,2,2),(73,0,0),(73,1,1),(73,2,2),(81,0,0),(81,1,1),(81,2,2)]
 v:=[]
 b:=[4]
 s:=[114,131,141,22,23,27,28,42,46,65,69,79]
 ht:=by kernel_rfl
 hf:=by kernel_rfl
 hv:=by kernel_rfl
 hb:=by kernel_rfl
 hs:=by kernel_rfl

noncomputable abbrev Jc (z0:List Ab) (z1:List Ah):Go.Abs.Row:=⟨0,30,2,[[(ls AT z0),(ls Ar z1)]]⟩
noncomputable abbrev Ml (z0:Int) (z1:Int) (z2:List AD):Go.Abs.Row:=⟨0,44,3,[[(i64 z0),(i64 z1),(ls A4 z2)]]⟩
noncomputable abbrev br:Go.Abs.Row:=⟨0,44,3,[[(i64 0),(i64 0),.zc]]⟩
theorem Vl:Hl Tryz.prog 44=true:=by kernel_rfl
theorem Vb:Ix Tryz.prog 44=some [(0,1),(1,1),(2,1)]:=by kernel_rfl
theorem da:By Tryz.prog 22=some ⟨67,3,40,[.int .i64 0,.int .i64 0,.sl []]⟩:=by kernel_rfl
theorem dZ:By Tryz.prog 23=some ⟨73,5,72,[.sl [],.int .i64 0,.int .i64 0,.int .i64 0,.sl []]⟩:=by kernel_rfl
theorem DO:By Tryz.prog 27=some ⟨81,3,40,[.int .i64 0,.int .i64 0,.sl []]⟩:=by kernel_rfl
theorem B3:By Tryz.prog 28=some ⟨48,5,72,[.sl [],.int .i64 0,.int .i64 0,.int .i64 0,.sl []]⟩:=by kernel_rfl
theorem Bw:By Tryz.prog 42=some ⟨44,3,40,[.int .i64 0,.int .i64 0,.sl []]⟩:=by kernel_rfl
theorem BJ:By Tryz.prog 46=some ⟨3,1,8,[.int .i64 0]⟩:=by kernel_rfl
theorem db:By Tryz.prog 65=some ⟨135,1,24,[.sl []]⟩:=by kernel_rfl
theorem dh:By Tryz.prog 69=some ⟨71,3,40,[.int .i64 0,.int .i64 0,.sl []]⟩:=by kernel_rfl
theorem Io:By Tryz.prog 79=some ⟨111,1,24,[.sl []]⟩:=by kernel_rfl
theorem Qu:Cx Tryz.prog 27=true:=by kernel_rfl
theorem Vo:Cx Tryz.prog 28=true:=by kernel_rfl
theorem US:Cx Tryz.prog 42=true:=by kernel_rfl
theorem Fp:Cx Tryz.prog 46=true:=by kernel_rfl
theorem O6:Cx Tryz.prog 79=true:=by kernel_rfl
theorem Jr:Ch Tryz.prog 111=some (true,1):=by kernel_rfl
theorem dd:Ch Tryz.prog 27=some (false,1):=by kernel_rfl
theorem bB:Ch Tryz.prog 28=some (false,1):=by kernel_rfl
theorem Ja:Ch Tryz.prog 3=some (false,1):=by kernel_rfl
theorem Fw:Ch Tryz.prog 30=some (true,2):=by kernel_rfl
theorem VZ:Ch Tryz.prog 42=some (false,1):=by kernel_rfl
theorem Cz:Ch Tryz.prog 44=some (true,3):=by kernel_rfl
theorem H3:Ch Tryz.prog 46=some (false,1):=by kernel_rfl
theorem QZ:Ch Tryz.prog 48=some (true,5):=by kernel_rfl
theorem PA:Ch Tryz.prog 79=some (false,1):=by kernel_rfl
theorem Ji:Ch Tryz.prog 81=some (true,3):=by kernel_rfl
theorem Lr:HN Tryz.prog 111=some [.zc]:=by kernel_rfl
theorem H5:HN Tryz.prog 30=some [.zc,.zc]:=by kernel_rfl
theorem Hb:HN Tryz.prog 44=some [.int .i64 0,.int .i64 0,.zc]:=by kernel_rfl
theorem N5:HN Tryz.prog 48=some [.zc,.int .i64 0,.int .i64 0,.int .i64 0,.zc]:=by kernel_rfl
theorem Gm:HN Tryz.prog 81=some [.int .i64 0,.int .i64 0,.zc]:=by kernel_rfl

theorem NF {p0:(List Int)} {p1:Int} {r:Int} (h0:H2 p0 p1=some r):Aa Tryz.prog 82 [(ls eI p0),(i64 p1)] [] (fun v st=>v=(i64 r)∧st=[]):=by
 unfold H2 at h0
 refine ai Tryz.func82 U U U U (zr tb U U (sr U fun K2 hK2=>zm tb 2 U (zl tb U U (zm tb 2 U (dn hK2 U (AB fun K3 hK3=>zr tb U U ?_))))))
 refine ci h0 U ?_ ?_ <;> clear h0 <;> intro b5 h0
 ·refine zr tb U U ?_
  obtain rfl:=Sh.AA h0
  exact AI (xr (AS (L:=[(4,(i64 (-1)))]) (.same U)))
 ·refine AG (hK3 _ (zr tb U U ?_))
  obtain rfl:=Sh.AA h0
  exact AI (xr (AS (L:=[(4,(i64 (Sh.w (p1 - (Sh.len p0)))))]) (.same U)))
theorem Tf {p0:BP} {p1:Int} {r:Int} (h0:J7 p0 p1=some r):Aa Tryz.prog 119 [(.agg (BR p0)),(i64 p1)] [] (fun v st=>v=(i64 r)∧st=[]):=by
 unfold J7 at h0
 refine ai Tryz.func119 U U U U (sr U fun K1 hK1=>A7 (m:=0) Ac U U U U U (zq tb U (dn hK1 U (sr U fun K2 hK2=>zm tb 3 U (bs h0 fun q3 gq3 h0=>zc (hb 82) (NF gq3) rfl U U (zq tb U (dn hK2 U (AB fun K4 hK4=>?_))))))))
 refine zr tb U U ?_
 refine ci h0 U ?_ ?_ <;> clear h0 <;> intro b6 h0
 ·refine zr tb U U ?_
  obtain rfl:=Sh.AA h0
  exact AI (xr (Ai [(4,(i64 (-1)))] U))
 ·refine AG (hK4 _ (zr tb U U ?_))
  obtain rfl:=Sh.AA h0
  exact AI (xr (Ai [(4,(i64 q3))] U))
theorem Sk {N:Nat} {p0:(List BP)} {p1:Int} {r:Int} (h0:JL N p0 p1=some r):Aa Tryz.prog 81 [(ls BR p0),(i64 p1)] [] (fun v st=>v=(i64 r)∧st=[]):=by
 unfold JL at h0
 refine ai Tryz.func81 U U U U (zr tb U U (sr U fun K2 hK2=>zm tb 2 U (zl tb U U (zm tb 2 U (dn hK2 U (AB fun K3 hK3=>zr tb U U ?_))))))
 refine ci h0 U ?_ ?_ <;> clear h0 <;> intro b5 h0
 ·refine zr tb U U ?_
  obtain rfl:=Sh.AA h0
  exact AI (xr (AS (L:=[(4,(i64 (-1)))]) (.same U)))
 ·refine AG (hK3 _ (AB fun K7 hK7=>zr tb U U ?_))
  obtain⟨o12,h1,h0⟩:=Sh.A8 h0
  have M12 :∀(left11:Int),o12=Sum.inr left11→∀s,Wk 0 s ⟨27,AL [(1,(i64 left11))],[]⟩→K7 s:=by
   intro left11 hq s hw
   subst o12
   try dsimp only at h0
   refine hK7 _ (AM hw (zr tb U U ?_))
   obtain rfl:=Sh.AA h0
   exact AI (xr (AS (L:=[(4,(i64 left11))]) (.same U)))
  refine AP (Ak (σ:=Int×Int) (fun n v=>Ey p0 n v.1 v.2=some o12) (fun (left9,i10)=>⟨27,AL [(0,(ls BR p0)),(1,(i64 left9)),(5,(i64 i10))],[]⟩) N (Sh.w (p1 - (Sh.len p0)),0) h1 (AH U) (fun _ hv=>by rw[Ey] at hv;cases hv) ?_)
  rintro n ⟨left9,i10⟩ h1
  try dsimp only at h1 ⊢
  rw[Ey] at h1
  refine AB fun K14 hK14=>sr U fun K15 hK15=>zm tb 2 U (zl tb U U (zq tb U (dn hK15 U ?_)))
  refine ci h1 U ?_ ?_ <;> clear h1 <;> intro b16 h1
  ·refine AG (hK14 _ (AB fun K17 hK17=>AP (sr U fun K18 hK18=>zm tb 2 U (bs h1 fun c19 gc19 h1=>zx db gc19 U U U (zm tb 2 U (bs h1 fun q20 gq20 h1=>zc (hb 119) (Tf gq20) rfl U U (zq tb U (dn hK18 U ?_))))))))
   refine zr tb U U ?_
   refine ci h1 U ?_ ?_ <;> clear h1 <;> intro b22 h1
   ·refine zr tb U U ?_
    obtain rfl:=Sh.AA h1
    try dsimp only[id] at h0
    obtain rfl:=Sh.AA h0
    exact AI (xr (AS (L:=[(4,(i64 (-1)))]) (.same U)))
   ·exact AG (hK17 _ (AF U (zm tb 3 U (AE (xi (q20,Sh.w (i10+1)) h1 (AH U))))))
  ·exact Ao (M12 left9 (Sh.AA h1).symm _ (AH U))
theorem TA {N:Nat} {p0:Ab} {p1:Int} {r:Int} (h0:JQ N p0 p1=some r):Aa Tryz.prog 42 [(.agg (AT p0)),(i64 p1)] [] (fun v st=>v=(i64 r)∧st=[]):=by
 unfold JQ at h0
 refine ai Tryz.func42 U U U U (sr U fun K1 hK1=>A7 (m:=0) Ac U U U U U (zq tb U (dn hK1 U (sr U fun K2 hK2=>zm tb 3 U (bs h0 fun q3 gq3 h0=>zc (hb 81) (Sk gq3) rfl U U (zq tb U (dn hK2 U (AB fun K4 hK4=>?_))))))))
 refine zr tb U U ?_
 refine ci h0 U ?_ ?_ <;> clear h0 <;> intro b6 h0
 ·refine zr tb U U ?_
  obtain rfl:=Sh.AA h0
  exact AI (xr (Ai [(4,(i64 (-1)))] U))
 ·refine AG (hK4 _ (zr tb U U ?_))
  obtain rfl:=Sh.AA h0
  exact AI (xr (Ai [(4,(i64 q3))] U))
theorem Rj {N:Nat} {p0:(List Ab)} {p1:Int} {r:Int} (h0:IN N p0 p1=some r):Aa Tryz.prog 17 [(Bf p0),(i64 p1)] [] (fun v st=>v=(i64 r)∧st=[]):=by
 unfold IN at h0
 refine ai Tryz.func17 U U U U (zr tb U U (sr U fun K2 hK2=>zm tb 2 U (zl tb U U (zm tb 2 U (dn hK2 U (AB fun K3 hK3=>zr tb U U ?_))))))
 refine ci h0 U ?_ ?_ <;> clear h0 <;> intro b5 h0
 ·refine zr tb U U ?_
  obtain rfl:=Sh.AA h0
  exact AI (xr (AS (L:=[(4,(i64 (-1)))]) (.same U)))
 ·refine AG (hK3 _ (AB fun K7 hK7=>zr tb U U ?_))
  obtain⟨o12,h1,h0⟩:=Sh.A8 h0
  have M12 :∀(left11:Int),o12=Sum.inr left11→∀s,Wk 0 s ⟨27,AL [(1,(i64 left11))],[]⟩→K7 s:=by
   intro left11 hq s hw
   subst o12
   try dsimp only at h0
   refine hK7 _ (AM hw (zr tb U U ?_))
   obtain rfl:=Sh.AA h0
   exact AI (xr (AS (L:=[(4,(i64 left11))]) (.same U)))
  refine AP (Ak (σ:=Int×Int) (fun n v=>Em N p0 n v.1 v.2=some o12) (fun (left9,i10)=>⟨27,AL [(0,(ls AT p0)),(1,(i64 left9)),(5,(i64 i10))],[]⟩) N (Sh.w (p1 - (Sh.len p0)),0) h1 (AH U) (fun _ hv=>by rw[Em] at hv;cases hv) ?_)
  rintro n ⟨left9,i10⟩ h1
  try dsimp only at h1 ⊢
  rw[Em] at h1
  refine AB fun K14 hK14=>sr U fun K15 hK15=>zm tb 2 U (zl tb U U (zq tb U (dn hK15 U ?_)))
  refine ci h1 U ?_ ?_ <;> clear h1 <;> intro b16 h1
  ·refine AG (hK14 _ (AB fun K17 hK17=>AP (sr U fun K18 hK18=>zm tb 2 U (bs h1 fun c19 gc19 h1=>zx da gc19 U U U (zm tb 2 U (bs h1 fun q20 gq20 h1=>zc (hb 42) (TA gq20) rfl U U (zq tb U (dn hK18 U ?_))))))))
   refine zr tb U U ?_
   refine ci h1 U ?_ ?_ <;> clear h1 <;> intro b22 h1
   ·refine zr tb U U ?_
    obtain rfl:=Sh.AA h1
    try dsimp only[id] at h0
    obtain rfl:=Sh.AA h0
    exact AI (xr (AS (L:=[(4,(i64 (-1)))]) (.same U)))
   ·exact AG (hK17 _ (AF U (zm tb 3 U (AE (xi (q20,Sh.w (i10+1)) h1 (AH U))))))
  ·exact Ao (M12 left9 (Sh.AA h1).symm _ (AH U))
theorem Rw {N:Nat} {rec_laws_szExpr:AD→Int→Option (Int)} (hrec_laws_szExpr :∀{p0:AD} {p1:Int} {r:Int},rec_laws_szExpr p0 p1=some r→Aa Tryz.prog 83 [(Bt p0),(i64 p1)] [] (fun v st=>v=(i64 r)∧st=[])) {p0:(List AD)} {p1:Int} {r:Int} (h0:IK N rec_laws_szExpr p0 p1=some r):Aa Tryz.prog 120 [(EY p0),(i64 p1)] [] (fun v st=>v=(i64 r)∧st=[]):=by
 unfold IK at h0
 refine ai Tryz.func120 U U U U (zr tb U U (sr U fun K2 hK2=>zm tb 2 U (zl tb U U (zm tb 2 U (dn hK2 U (AB fun K3 hK3=>zr tb U U ?_))))))
 refine ci h0 U ?_ ?_ <;> clear h0 <;> intro b5 h0
 ·refine zr tb U U ?_
  obtain rfl:=Sh.AA h0
  exact AI (xr (AS (L:=[(4,(i64 (-1)))]) (.same U)))
 ·refine AG (hK3 _ (AB fun K7 hK7=>zr tb U U ?_))
  obtain⟨o12,h1,h0⟩:=Sh.A8 h0
  have M12 :∀(left11:Int),o12=Sum.inr left11→∀s,Wk 0 s ⟨27,AL [(1,(i64 left11))],[]⟩→K7 s:=by
   intro left11 hq s hw
   subst o12
   try dsimp only at h0
   refine hK7 _ (AM hw (zr tb U U ?_))
   obtain rfl:=Sh.AA h0
   exact AI (xr (AS (L:=[(4,(i64 left11))]) (.same U)))
  refine AP (Ak (σ:=Int×Int) (fun n v=>D0 p0 rec_laws_szExpr n v.1 v.2=some o12) (fun (left9,i10)=>⟨27,AL [(0,(ls A4 p0)),(1,(i64 left9)),(5,(i64 i10))],[]⟩) N (Sh.w (p1 - (Sh.len p0)),0) h1 (AH U) (fun _ hv=>by rw[D0] at hv;cases hv) ?_)
  rintro n ⟨left9,i10⟩ h1
  try dsimp only at h1 ⊢
  rw[D0] at h1
  refine AB fun K14 hK14=>sr U fun K15 hK15=>zm tb 2 U (zl tb U U (zq tb U (dn hK15 U ?_)))
  refine ci h1 U ?_ ?_ <;> clear h1 <;> intro b16 h1
  ·refine AG (hK14 _ (AB fun K17 hK17=>AP (sr U fun K18 hK18=>zm tb 2 U (bs h1 fun c19 gc19 h1=>zz (Ff c19) (BY dh U U gc19 (Aw _) rfl) rfl (zm tb 2 U (bs h1 fun q20 gq20 h1=>zc (hb 83) (hrec_laws_szExpr gq20) rfl U U (zq tb U (dn hK18 U ?_))))))))
   refine zr tb U U ?_
   refine ci h1 U ?_ ?_ <;> clear h1 <;> intro b22 h1
   ·refine zr tb U U ?_
    obtain rfl:=Sh.AA h1
    try dsimp only[id] at h0
    obtain rfl:=Sh.AA h0
    exact AI (xr (AS (L:=[(4,(i64 (-1)))]) (.same U)))
   ·exact AG (hK17 _ (AF U (zm tb 3 U (AE (xi (q20,Sh.w (i10+1)) h1 (AH U))))))
  ·exact Ao (M12 left9 (Sh.AA h1).symm _ (AH U))
theorem Qi {N:Nat} {rec_laws_szExpr:AD→Int→Option (Int)} (hrec_laws_szExpr :∀{p0:AD} {p1:Int} {r:Int},rec_laws_szExpr p0 p1=some r→Aa Tryz.prog 83 [(Bt p0),(i64 p1)] [] (fun v st=>v=(i64 r)∧st=[])) {p0:AD} {p1:Int} {r:Int} (h0:JX N rec_laws_szExpr p0 p1=some r):Aa Tryz.prog 83 [(Bt p0),(i64 p1)] [] (fun v st=>v=(i64 r)∧st=[]):=by
 unfold JX at h0
 refine ai Tryz.func83 U U U U (sr U fun K1 hK1=>A7 (m:=0) Ac U U U U U (zq tb U (dn hK1 U (sr U fun K2 hK2=>zm tb 3 U (bs h0 fun q3 gq3 h0=>zc (hb 120) (Rw hrec_laws_szExpr gq3) rfl U U (zq tb U (dn hK2 U (AB fun K4 hK4=>?_))))))))
 refine zr tb U U ?_
 refine ci h0 U ?_ ?_ <;> clear h0 <;> intro b6 h0
 ·refine zr tb U U ?_
  obtain rfl:=Sh.AA h0
  exact AI (xr (Ai [(4,(i64 (-1)))] U))
 ·refine AG (hK4 _ (zr tb U U ?_))
  obtain rfl:=Sh.AA h0
  exact AI (xr (Ai [(4,(i64 q3))] U))

theorem QT {N:Nat} :∀(n:Nat),∀{p0:AD} {p1:Int} {r:Int},Gi N n p0 p1=some r→Aa Tryz.prog 83 [(Bt p0),(i64 p1)] [] (fun v st=>v=(i64 r)∧st=[]):=by
 intro n
 induction n with
 | zero=>intro p0 p1 r h0;cases h0
 | succ n ih=>
  intro p0 p1 r h0
  rw[Gi] at h0
  exact Qi (fun h=>ih h) h0
theorem Sj {N:Nat} :∀{p0:AD} {p1:Int} {r:Int},Kb N p0 p1=some r→Aa Tryz.prog 83 [(Bt p0),(i64 p1)] [] (fun v st=>v=(i64 r)∧st=[]):=by
 intro p0 p1 r h0
 exact QT N h0
theorem S0 {N:Nat} {p0:Ah} {p1:Int} {r:Int} (h0:JK N p0 p1=some r):Aa Tryz.prog 43 [(.agg (T6 p0)),(i64 p1)] [] (fun v st=>v=(i64 r)∧st=[]):=by
 unfold JK at h0
 refine ai Tryz.func43 U U U U (sr U fun K1 hK1=>A7 (m:=0) Ac U U U U U (zq tb U (dn hK1 U (sr U fun K2 hK2=>zm tb 3 U (bs h0 fun q3 gq3 h0=>zc (hb 82) (NF gq3) rfl U U (zq tb U (dn hK2 U (AB fun K4 hK4=>?_))))))))
 refine zr tb U U ?_
 refine ci h0 U ?_ ?_ <;> clear h0 <;> intro b6 h0
 ·refine zr tb U U ?_
  obtain rfl:=Sh.AA h0
  exact AI (xr (Ai [(4,(i64 (-1)))] U))
 ·refine AG (hK4 _ (sr U fun K8 hK8=>zm tb 3 U (bs h0 fun q9 gq9 h0=>zc (hb 83) (Sj gq9) rfl U U (zq tb U (dn hK8 U (AB fun K10 hK10=>zr tb U U ?_))))))
  refine ci h0 U ?_ ?_ <;> clear h0 <;> intro b12 h0
  ·refine zr tb U U ?_
   obtain rfl:=Sh.AA h0
   exact AI (xr (Ai [(4,(i64 (-1)))] U))
  ·refine AG (hK10 _ (zr tb U U ?_))
   obtain rfl:=Sh.AA h0
   exact AI (xr (Ai [(4,(i64 q9))] U))
theorem R7 {N:Nat} {p0:(List Ah)} {p1:Int} {r:Int} (h0:IG N p0 p1=some r):Aa Tryz.prog 18 [(ls Ar p0),(i64 p1)] [] (fun v st=>v=(i64 r)∧st=[]):=by
 unfold IG at h0
 refine ai Tryz.func18 U U U U (zr tb U U (sr U fun K2 hK2=>zm tb 2 U (zl tb U U (zm tb 2 U (dn hK2 U (AB fun K3 hK3=>zr tb U U ?_))))))
 refine ci h0 U ?_ ?_ <;> clear h0 <;> intro b5 h0
 ·refine zr tb U U ?_
  obtain rfl:=Sh.AA h0
  exact AI (xr (AS (L:=[(4,(i64 (-1)))]) (.same U)))
 ·refine AG (hK3 _ (AB fun K7 hK7=>zr tb U U ?_))
  obtain⟨o12,h1,h0⟩:=Sh.A8 h0
  have M12 :∀(left11:Int),o12=Sum.inr left11→∀s,Wk 0 s ⟨27,AL [(1,(i64 left11))],[]⟩→K7 s:=by
   intro left11 hq s hw
   subst o12
   try dsimp only at h0
   refine hK7 _ (AM hw (zr tb U U ?_))
   obtain rfl:=Sh.AA h0
   exact AI (xr (AS (L:=[(4,(i64 left11))]) (.same U)))
  refine AP (Ak (σ:=Int×Int) (fun n v=>Ef N p0 n v.1 v.2=some o12) (fun (left9,i10)=>⟨27,AL [(0,(ls Ar p0)),(1,(i64 left9)),(5,(i64 i10))],[]⟩) N (Sh.w (p1 - (Sh.len p0)),0) h1 (AH U) (fun _ hv=>by rw[Ef] at hv;cases hv) ?_)
  rintro n ⟨left9,i10⟩ h1
  try dsimp only at h1 ⊢
  rw[Ef] at h1
  refine AB fun K14 hK14=>sr U fun K15 hK15=>zm tb 2 U (zl tb U U (zq tb U (dn hK15 U ?_)))
  refine ci h1 U ?_ ?_ <;> clear h1 <;> intro b16 h1
  ·refine AG (hK14 _ (AB fun K17 hK17=>AP (sr U fun K18 hK18=>zm tb 2 U (bs h1 fun c19 gc19 h1=>zx dZ gc19 U U U (zm tb 2 U (bs h1 fun q20 gq20 h1=>zc (hb 43) (S0 gq20) rfl U U (zq tb U (dn hK18 U ?_))))))))
   refine zr tb U U ?_
   refine ci h1 U ?_ ?_ <;> clear h1 <;> intro b22 h1
   ·refine zr tb U U ?_
    obtain rfl:=Sh.AA h1
    try dsimp only[id] at h0
    obtain rfl:=Sh.AA h0
    exact AI (xr (AS (L:=[(4,(i64 (-1)))]) (.same U)))
   ·exact AG (hK17 _ (AF U (zm tb 3 U (AE (xi (q20,Sh.w (i10+1)) h1 (AH U))))))
  ·exact Ao (M12 left9 (Sh.AA h1).symm _ (AH U))
theorem QC {N:Nat} {p0:AN} {p1:Int} {r:Int} (h0:HA N p0 p1=some r):Aa Tryz.prog 6 [(HH p0),(i64 p1)] [] (fun v st=>v=(i64 r)∧st=[]):=by
 unfold HA at h0
 refine ai Tryz.func6 U U U U (sr U fun K1 hK1=>A7 (m:=0) Ac U U U U U (zq tb U (dn hK1 U (sr U fun K2 hK2=>zm tb 3 U (bs h0 fun q3 gq3 h0=>zc (hb 17) (Rj gq3) rfl U U (zq tb U (dn hK2 U (AB fun K4 hK4=>?_))))))))
 refine zr tb U U ?_
 refine ci h0 U ?_ ?_ <;> clear h0 <;> intro b6 h0
 ·refine zr tb U U ?_
  obtain rfl:=Sh.AA h0
  exact AI (xr (Ai [(4,(i64 (-1)))] U))
 ·refine AG (hK4 _ (sr U fun K8 hK8=>zm tb 3 U (bs h0 fun q9 gq9 h0=>zc (hb 18) (R7 gq9) rfl U U (zq tb U (dn hK8 U (AB fun K10 hK10=>zr tb U U ?_))))))
  refine ci h0 U ?_ ?_ <;> clear h0 <;> intro b12 h0
  ·refine zr tb U U ?_
   obtain rfl:=Sh.AA h0
   exact AI (xr (Ai [(4,(i64 (-1)))] U))
  ·refine AG (hK10 _ (zr tb U U ?_))
   obtain rfl:=Sh.AA h0
   exact AI (xr (Ai [(4,(i64 q9))] U))
theorem NL {N:Nat} {p0:(List Int)} {r:(List Int)} (h0:Hv N p0=some r):Aa Tryz.prog 96 [(ls eI p0)] [] (fun v st=>v=(ow 0 0 r)∧st=[(BB r)]):=by
 unfold Hv at h0
 refine ai Tryz.func96 U U U U (zr tb U U (sr U fun K2 hK2=>zq tb U (zl tb U U (bs h0 fun l3 gl3 h0=>NZ (m:=0) (enc:=eI) (u:=0) Ac BJ U U U gl3 U U (zq tb U (dn hK2 U (AB fun K4 hK4=>zr tb U U (bs h0 fun o9 h1 h0=>?_))))))))
 have M9 :∀(l8:(List Int)),o9=l8→∀s,Wk 0 s ⟨22,AL [(3,(ow 0 0 l8))],[(BB l8)]⟩→K4 s:=by
  intro l8 hq s hw
  subst o9
  try dsimp only at h0
  refine hK4 _ (AM hw (zr tb U U ?_))
  obtain rfl:=Sh.AA h0
  exact AI (xr (AS (L:=[(2,(ow 0 0 l8))]) (.same U)))
 refine AP (Ak (σ:=Int×(List Int)) (fun n v=>EV p0 n v.1 v.2=some o9) (fun (i6,l7)=>⟨22,AL [(0,(ls eI p0)),(3,(ow 0 0 l7)),(4,(i64 i6))],[(ro 0 3 1 eI l7)]⟩) N (0,l3) h1 (AH U) (fun _ hv=>by rw[EV] at hv;cases hv) ?_)
 rintro n ⟨i6,l7⟩ h1
 try dsimp only at h1 ⊢
 rw[EV] at h1
 refine AB fun K11 hK11=>sr U fun K12 hK12=>zm tb 2 U (zl tb U U (zq tb U (dn hK12 U ?_)))
 refine ci h1 U ?_ ?_ <;> clear h1 <;> intro b13 h1
 ·refine AG (hK11 _ (AB fun K14 hK14=>AP (AF U (zm tb 4 U (bs h1 fun c15 gc15 h1=>zx BJ gc15 U U U (zq tb U (bs h1 fun c16 gc16 h1=>zz (NR i6) (Bb BJ U U U U gc16) rfl (HW (u':=c15) Ac Ja U U gc16 U U U (show 0+1≤1 by decide) rfl U (dn hK14 U ?_)))))))))
  refine AF U (zm tb 3 U ?_)
  exact AE (xi (Sh.w (i6+1),Sh.put l7 i6 c15) h1 (AS (L:=[(0,(.sl (List.map eI p0))),(3,(.own 0 0 (List.length (Sh.put l7 i6 c15)))),(4,(i64 (Sh.w (i6+1))))]) ⟨.rfl,(.len (by simp only[Sh.Az])),.rfl,trivial⟩))
 ·exact Ao (M9 l7 (Sh.AA h1).symm _ (AH U))
theorem T8 {N:Nat} {p0:BP} {r:BP} (h0:KA N p0=some r):Aa Tryz.prog 123 [(.agg (BR p0))] [] (fun v st=>v=(.agg [(ow 0 0 r.fields)])∧st=[(ro 0 3 1 eI r.fields)]):=by
 unfold KA at h0
 refine Aa.wk (r0:=(.agg [(ow 0 0 r.fields)])) (st0:=[(ro 0 3 1 eI r.fields),⟨0,111,1,[[(ow 0 0 r.fields)]]⟩]) ?_ (FZ (L:=[(0,(.agg [(ow 0 0 r.fields)]))]) (st':=[(ro 0 3 1 eI r.fields)]) [0] U (by decide) rfl U (.pure (AJ fun _=>U) trivial) (.same U))
 refine ai Tryz.func123 U U U U (sr U fun K1 hK1=>A7 (m:=0) Ac U U U U U (As (m:=1) Ac Lr U U (dn hK1 U (sr U fun K2 hK2=>As (m:=2) Ac Lr U U (dn hK2 U (sr U fun K3 hK3=>zm tb 2 U (bs h0 fun q4 gq4 h0=>BF (v':=(ow 3 0 q4)) Ac (hb 96) (NL gq4) rfl U ⟨(BZ fun _=>U),trivial⟩ U U ?_)))))))
 refine zq tb U (Ay Ac H3 U U U U U U (show 0+1≤1 by decide) rfl (dn hK3 U (sr U fun K5 hK5=>zq tb U (Ay Ac Jr U U U U U U (show 0+1≤1 by decide) rfl (dn hK5 U ?_)))))
 obtain rfl:=Sh.AA h0
 exact AI (Exists.intro _ (And.intro ((A5 (L:=[(2,Aq)]) (st':=[(BB q4),⟨0,111,1,[[(ow 0 0 q4)]]⟩]) (st1:=[(BB q4),⟨0,111,1,[[(ow 3 0 q4)]]⟩]) [3,1] U .nil (by decide) rfl U (.pure (AJ fun _=>U) (.raw U U .nil)) (.same U)).trans (AS (L:=[(2,Aq)]) (.same U))) (BM (x:=.tmp 2) (off:=0) (cs:=[(ow 0 0 q4)]) (vs:=[(ow 0 0 q4)]) Jr U U U (show 0+1≤1 by decide) rfl _ ⟨U,U⟩)))
theorem S7 {N:Nat} {p0:(List BP)} {r:(List BP)} (h0:JR N p0=some r):Aa Tryz.prog 95 [(ls BR p0)] [] (fun v st=>v=(ow 0 0 r)∧st=[(Xv r)]):=by
 unfold JR at h0
 refine ai Tryz.func95 U U U U (zr tb U U (sr U fun K2 hK2=>zq tb U (zl tb U U (bs h0 fun l3 gl3 h0=>OU (m:=0) (st':=[(Xv l3)]) (enc:=(CA 3)) (u:=(BP.mk [])) Io U U ⟨.inr ⟨U,_,_,U,by decide⟩,trivial⟩ gl3 U U (zq tb U (dn hK2 U (AB fun K4 hK4=>zr tb U U (bs h0 fun o9 h1 h0=>?_))))))))
 have M9 :∀(l8:(List BP)),o9=l8→∀s,Wk 0 s ⟨23,AL [(3,(ow 0 0 l8))],[(Xv l8)]⟩→K4 s:=by
  intro l8 hq s hw
  subst o9
  try dsimp only at h0
  refine hK4 _ (AM hw (zr tb U U ?_))
  obtain rfl:=Sh.AA h0
  exact AI (xr (AS (L:=[(2,(ow 0 0 l8))]) (.same U)))
 refine AP (Ak (σ:=Int×(List BP)) (fun n v=>E2 N p0 n v.1 v.2=some o9) (fun (i6,l7)=>⟨23,AL [(0,(ls BR p0)),(3,(ow 0 0 l7)),(4,(i64 i6))],[(ro 0 111 1 (CA 3) l7)]⟩) N (0,l3) h1 (AH U) (fun _ hv=>by rw[E2] at hv;cases hv) ?_)
 rintro n ⟨i6,l7⟩ h1
 try dsimp only at h1 ⊢
 rw[E2] at h1
 refine AB fun K11 hK11=>sr U fun K12 hK12=>zm tb 2 U (zl tb U U (zq tb U (dn hK12 U ?_)))
 refine ci h1 U ?_ ?_ <;> clear h1 <;> intro b13 h1
 ·refine AG (hK11 _ (AB fun K14 hK14=>AP (AF U (zm tb 4 U (bs h1 fun c15 gc15 h1=>zx db gc15 U U U (zq tb U (bs h1 fun q16 gq16 h1=>BF (v':=(.agg [(ow 1 0 q16.fields)])) Ac (hb 123) (T8 gq16) rfl U ⟨(BZ fun _=>U),trivial⟩ U U (bs h1 fun c17 gc17 h1=>zz (NR i6) (Bb Io U U U U gc17) rfl ?_))))))))
  refine TM (st':=[⟨0,111,1,hole l7 (CA 3) i6 [(ow 1 0 q16.fields)]⟩,(ro 0 3 1 eI q16.fields)]) Ac Jr U U gc17 U U U (show 1≤1 by decide) rfl U ?_
  refine Af (Wk.take (id:=0) (m:=1) (j:=0) (i:=i6) (c:=c17) (ys:=q16.fields) (encY:=eI) rfl gc17 U U U (by decide) (show 0≤1 by decide) (fun _=>U) rfl U) ?_
  refine Af (Ew (id:=0) (i:=i6) (u:=q16) rfl U U) (dn hK14 U (AF U (zm tb 3 U ?_)))
  exact AE (xi (Sh.w (i6+1),Sh.put l7 i6 q16) h1 (by refine Wk.trans (AU (L:=[(0,(.sl (List.map BR p0))),(3,(.own 0 0 (List.length l7))),(4,(i64 (Sh.w (i6+1))))]) (st':=[⟨0,111,1,List.map (CA 3) (Sh.put l7 i6 q16)⟩]) [0] U (by decide) rfl U (.deep (AR fun _=>U) .nil) ⟨.rfl,.rfl,.rfl,trivial⟩) ?_;exact AS (L:=[(0,(.sl (List.map BR p0))),(3,(.own 0 0 (List.length (Sh.put l7 i6 q16)))),(4,(i64 (Sh.w (i6+1))))]) ⟨.rfl,(.len (by simp only[Sh.Az])),.rfl,trivial⟩))
 ·exact Ao (M9 l7 (Sh.AA h1).symm _ (AH U))
theorem TF {N:Nat} {p0:Ab} {r:Ab} (h0:JM N p0=some r):Aa Tryz.prog 51 [(.agg (AT p0))] [] (fun v st=>v=(.agg (dC r))∧st=[(ro 0 111 1 (CA 3) r.cons)]):=by
 unfold JM at h0
 refine Aa.wk (r0:=(.agg (dC r))) (st0:=[(ro 0 111 1 (CA 3) r.cons),⟨0,81,3,[(dC r)]⟩]) ?_ (FZ (L:=[(0,(.agg (dC r)))]) (st':=[(ro 0 111 1 (CA 3) r.cons)]) [0] U (by decide) rfl U (.deep (AR fun _=>U) trivial) (.same U))
 refine ai Tryz.func51 U U U U (sr U fun K1 hK1=>A7 (m:=0) Ac U U U U U (As (m:=1) Ac Gm U U (dn hK1 U (sr U fun K2 hK2=>As (m:=2) Ac Gm U U (dn hK2 U (sr U fun K3 hK3=>zm tb 3 U (Ay Ac Ja U U U U U U (show 0+1≤3 by decide) rfl (dn hK3 U ?_))))))))
 refine sr U fun K4 hK4=>zm tb 3 U (Ay Ac Ja U U U U U U (show 1+1≤3 by decide) rfl (dn hK4 U (sr U fun K5 hK5=>zm tb 2 U (bs h0 fun q6 gq6 h0=>BF (v':=(ow 3 0 q6)) Ac (hb 95) (S7 gq6) rfl U ⟨(AR fun _=>U),trivial⟩ U U (zq tb U (Ay Ac PA U U U U U U (show 2+1≤3 by decide) rfl (dn hK5 U (sr U fun K7 hK7=>?_))))))))
 refine zq tb U (Ay Ac Ji U U U U U U (show 0+3≤3 by decide) rfl (dn hK7 U ?_))
 obtain rfl:=Sh.AA h0
 exact AI (Exists.intro _ (And.intro ((A5 (L:=[(2,Aq)]) (st':=[(Xv q6),⟨0,81,3,[[(i64 p0.from_),(i64 p0.to),(ow 0 0 q6)]]⟩]) (st1:=[(Xv q6),⟨0,81,3,[[(i64 p0.from_),(i64 p0.to),(ow 3 0 q6)]]⟩]) [3,1] U .nil (by decide) rfl U (.deep (AR fun _=>U) (.raw U U .nil)) (.same U)).trans (AS (L:=[(2,Aq)]) (.same U))) (BM (x:=.tmp 2) (off:=0) (cs:=[(i64 p0.from_),(i64 p0.to),(ow 0 0 q6)]) (vs:=[(i64 p0.from_),(i64 p0.to),(ow 0 0 q6)]) Ji U U U (show 0+3≤3 by decide) rfl _ ⟨U,U⟩)))
theorem Rq {N:Nat} {p0:(List Ab)} {r:(List Ab)} (h0:ID N p0=some r):Aa Tryz.prog 22 [(Bf p0)] [] (fun v st=>v=(ow 0 0 r)∧st=[(FD r)]):=by
 unfold ID at h0
 refine ai Tryz.func22 U U U U (zr tb U U (sr U fun K2 hK2=>zq tb U (zl tb U U (bs h0 fun l3 gl3 h0=>OU (m:=0) (st':=[(FD l3)]) (enc:=(Ad 111 3)) (u:=(Ab.mk 0 0 [])) DO U U ⟨.inl ⟨U,U⟩,⟨.inl ⟨U,U⟩,⟨.inr ⟨U,_,_,U,by decide⟩,trivial⟩⟩⟩ gl3 U U (zq tb U (dn hK2 U (AB fun K4 hK4=>zr tb U U (bs h0 fun o9 h1 h0=>?_))))))))
 have M9 :∀(l8:(List Ab)),o9=l8→∀s,Wk 0 s ⟨23,AL [(3,(ow 0 0 l8))],[(FD l8)]⟩→K4 s:=by
  intro l8 hq s hw
  subst o9
  try dsimp only at h0
  refine hK4 _ (AM hw (zr tb U U ?_))
  obtain rfl:=Sh.AA h0
  exact AI (xr (AS (L:=[(2,(ow 0 0 l8))]) (.same U)))
 refine AP (Ak (σ:=Int×(List Ab)) (fun n v=>Ec N p0 n v.1 v.2=some o9) (fun (i6,l7)=>⟨23,AL [(0,(ls AT p0)),(3,(ow 0 0 l7)),(4,(i64 i6))],[(ro 0 81 3 (Ad 111 3) l7)]⟩) N (0,l3) h1 (AH U) (fun _ hv=>by rw[Ec] at hv;cases hv) ?_)
 rintro n ⟨i6,l7⟩ h1
 try dsimp only at h1 ⊢
 rw[Ec] at h1
 refine AB fun K11 hK11=>sr U fun K12 hK12=>zm tb 2 U (zl tb U U (zq tb U (dn hK12 U ?_)))
 refine ci h1 U ?_ ?_ <;> clear h1 <;> intro b13 h1
 ·refine AG (hK11 _ (AB fun K14 hK14=>AP (AF U (zm tb 4 U (bs h1 fun c15 gc15 h1=>zx da gc15 U U U (zq tb U (bs h1 fun q16 gq16 h1=>BF (v':=(.agg [(i64 q16.from_),(i64 q16.to),(ow 1 0 q16.cons)])) Ac (hb 51) (TF gq16) rfl U ⟨(AR fun _=>U),trivial⟩ U U (bs h1 fun c17 gc17 h1=>zz (NR i6) (Bb DO U U U U gc17) rfl ?_))))))))
  refine TM (st':=[⟨0,81,3,hole l7 (Ad 111 3) i6 [(i64 q16.from_),(i64 q16.to),(ow 1 0 q16.cons)]⟩,(ro 0 111 1 (CA 3) q16.cons)]) Ac Ji U U gc17 U U U (show 3≤3 by decide) rfl U ?_
  refine Af (Wk.take (id:=0) (m:=1) (j:=2) (i:=i6) (c:=c17) (ys:=q16.cons) (encY:=(CA 3)) rfl gc17 U U U (by decide) (show 0≤1 by decide) (fun _=>U) rfl U) ?_
  refine Af (Ew (id:=0) (i:=i6) (u:=q16) rfl U U) (dn hK14 U (AF U (zm tb 3 U ?_)))
  exact AE (xi (Sh.w (i6+1),Sh.put l7 i6 q16) h1 (by refine Wk.trans (AU (L:=[(0,(.sl (List.map AT p0))),(3,(.own 0 0 (List.length l7))),(4,(i64 (Sh.w (i6+1))))]) (st':=[⟨0,81,3,List.map (Ad 111 3) (Sh.put l7 i6 q16)⟩]) [0] U (by decide) rfl U (.deep (AR fun _=>U) .nil) ⟨.rfl,.rfl,.rfl,trivial⟩) ?_;exact AS (L:=[(0,(.sl (List.map AT p0))),(3,(.own 0 0 (List.length (Sh.put l7 i6 q16)))),(4,(i64 (Sh.w (i6+1))))]) ⟨.rfl,(.len (by simp only[Sh.Az])),.rfl,trivial⟩))
 ·exact Ao (M9 l7 (Sh.AA h1).symm _ (AH U))
theorem SD {N:Nat} {rec_laws_toExpr:AD→Option (AD)} (hrec_laws_toExpr :∀{p0:AD} {r:AD},rec_laws_toExpr p0=some r→Aa Tryz.prog 97 [(Bt p0)] [] (fun v st=>v=(Ox r)∧st=[(DU r)])) {p0:(List AD)} {r:(List AD)} (h0:Jz N rec_laws_toExpr p0=some r):Aa Tryz.prog 124 [(EY p0)] [] (fun v st=>v=(ow 0 0 r)∧st=[(CI r)]):=by
 unfold Jz at h0
 refine ai Tryz.func124 U U U U (zr tb U U (sr U fun K2 hK2=>zq tb U (zl tb U U (bs h0 fun l3 gl3 h0=>?_))))
 refine OU (m:=0) (st':=[(ro 0 44 3 (Au 44) l3)]) (enc:=(Au 44)) (u:=(AD.mk 0 0 [])) Bw U U (by rw[CX];exact⟨.inl ⟨U,U⟩,⟨.inl ⟨U,U⟩,⟨.inr ⟨U,_,_,U,by decide⟩,trivial⟩⟩⟩) gl3 U U ?_
 refine zq tb U (dn hK2 U (AB fun K4 hK4=>zr tb U U (bs h0 fun o9 h1 h0=>?_)))
 have M9 :∀(l8:(List AD)),o9=l8→∀s,Wk 0 s ⟨23,AL [(3,(ow 0 0 l8))],[(CI l8)]⟩→K4 s:=by
  intro l8 hq s hw
  subst o9
  try dsimp only at h0
  refine hK4 _ (AM hw (zr tb U U ?_))
  obtain rfl:=Sh.AA h0
  exact AI (xr (AS (L:=[(2,(ow 0 0 l8))]) (.same U)))
 refine AP (Ak (σ:=Int×(List AD)) (fun n v=>Ed p0 rec_laws_toExpr n v.1 v.2=some o9) (fun (i6,l7)=>⟨23,AL [(0,(ls A4 p0)),(3,(ow 0 0 l7)),(4,(i64 i6))],[(ro 0 44 3 (Au 44) l7)]⟩) N (0,l3) h1 (AH U) (fun _ hv=>by rw[Ed] at hv;cases hv) ?_)
 rintro n ⟨i6,l7⟩ h1
 try dsimp only at h1 ⊢
 rw[Ed] at h1
 refine AB fun K11 hK11=>sr U fun K12 hK12=>zm tb 2 U (zl tb U U (zq tb U (dn hK12 U ?_)))
 refine ci h1 U ?_ ?_ <;> clear h1 <;> intro b13 h1
 ·refine AG (hK11 _ (AB fun K14 hK14=>AP (AF U (zm tb 4 U (bs h1 fun c15 gc15 h1=>zz (Ff c15) (BY dh U U gc15 (Aw _) rfl) rfl (zq tb U (bs h1 fun q16 gq16 h1=>BF (v':=(.agg [(i64 q16.op),(i64 q16.num),(ow 1 0 q16.kids)])) Ac (hb 97) (hrec_laws_toExpr gq16) rfl U ⟨(AR Ag),trivial⟩ U U (bs h1 fun c17 gc17 h1=>zz (NR i6) (Bb Bw U U U U gc17) rfl ?_))))))))
  refine TM (st':=[⟨0,44,3,hole l7 (Au 44) i6 [(i64 q16.op),(i64 q16.num),(ow 1 0 q16.kids)]⟩,(DU q16)]) Ac Cz U U gc17 U U U (show 3≤3 by decide) (Wt _) rfl ?_
  refine Af (Wk.take (id:=0) (m:=1) (j:=2) (i:=i6) (c:=c17) (ys:=q16.kids) (encY:=(Au 44)) rfl gc17 U U U (by decide) (show 0≤1 by decide) Dz U U) ?_
  refine Af (Ew (id:=0) (i:=i6) (u:=q16) rfl (CX q16).symm U) (dn hK14 U (AF U (zm tb 3 U ?_)))
  exact AE (xi (Sh.w (i6+1),Sh.put l7 i6 q16) h1 (by refine Wk.trans (AU (L:=[(0,(.sl (List.map A4 p0))),(3,(.own 0 0 (List.length l7))),(4,(i64 (Sh.w (i6+1))))]) (st':=[⟨0,44,3,List.map (Au 44) (Sh.put l7 i6 q16)⟩]) [0] U (by decide) rfl U (.deep (AR Ag) .nil) ⟨.rfl,.rfl,.rfl,trivial⟩) ?_;exact AS (L:=[(0,(.sl (List.map A4 p0))),(3,(.own 0 0 (List.length (Sh.put l7 i6 q16)))),(4,(i64 (Sh.w (i6+1))))]) ⟨.rfl,(.len (by simp only[Sh.Az])),.rfl,trivial⟩))
 ·exact Ao (M9 l7 (Sh.AA h1).symm _ (AH U))
theorem QK {N:Nat} {rec_laws_toExpr:AD→Option (AD)} (hrec_laws_toExpr :∀{p0:AD} {r:AD},rec_laws_toExpr p0=some r→Aa Tryz.prog 97 [(Bt p0)] [] (fun v st=>v=(Ox r)∧st=[(DU r)])) {p0:AD} {r:AD} (h0:JU N rec_laws_toExpr p0=some r):Aa Tryz.prog 97 [(Bt p0)] [] (fun v st=>v=(Ox r)∧st=[(DU r)]):=by
 unfold JU at h0
 refine Aa.wk (r0:=(Ox r)) (st0:=[(DU r),⟨0,44,3,[(Yo r)]⟩]) ?_ (FZ (L:=[(0,(Ox r))]) (st':=[(DU r)]) [0] U (by decide) rfl U (.deep (AR Ag) trivial) (.same U))
 refine ai Tryz.func97 U U U U (sr U fun K1 hK1=>A7 (m:=0) Ac U U U U U (As (m:=1) Ac Hb U U (dn hK1 U (sr U fun K2 hK2=>As (m:=2) Ac Hb U U (dn hK2 U (sr U fun K3 hK3=>zm tb 3 U (Ay Ac Ja U U U U U U (show 0+1≤3 by decide) rfl (dn hK3 U ?_))))))))
 refine sr U fun K4 hK4=>zm tb 3 U (Ay Ac Ja U U U U U U (show 1+1≤3 by decide) rfl (dn hK4 U (sr U fun K5 hK5=>zm tb 2 U (bs h0 fun q6 gq6 h0=>BF (v':=(ow 3 0 q6)) Ac (hb 124) (SD hrec_laws_toExpr gq6) rfl U ⟨(AR Ag),trivial⟩ U U (zq tb U (Ay Ac VZ U U U U U U (show 2+1≤3 by decide) rfl (dn hK5 U (sr U fun K7 hK7=>?_))))))))
 refine zq tb U (Ay Ac Cz U U U U U U (show 0+3≤3 by decide) rfl (dn hK7 U ?_))
 obtain rfl:=Sh.AA h0
 exact AI (Exists.intro _ (And.intro ((A5 (L:=[(2,Aq)]) (st':=[(CI q6),⟨0,44,3,[[(i64 p0.op),(i64 p0.num),(ow 0 0 q6)]]⟩]) (st1:=[(CI q6),⟨0,44,3,[[(i64 p0.op),(i64 p0.num),(ow 3 0 q6)]]⟩]) [3,1] U .nil (by decide) rfl U (.deep (AR Ag) (.raw U U .nil)) (.same U)).trans (AS (L:=[(2,Aq)]) (.same U))) (BM (x:=.tmp 2) (off:=0) (cs:=[(i64 p0.op),(i64 p0.num),(ow 0 0 q6)]) (vs:=[(i64 p0.op),(i64 p0.num),(ow 0 0 q6)]) Cz U U U (show 0+3≤3 by decide) rfl _ ⟨U,U⟩)))

theorem Qj {N:Nat} :∀(n:Nat),∀{p0:AD} {r:AD},Fv N n p0=some r→Aa Tryz.prog 97 [(Bt p0)] [] (fun v st=>v=(Ox r)∧st=[(DU r)]):=by
 intro n
 induction n with
 | zero=>intro p0 r h0;cases h0
 | succ n ih=>
  intro p0 r h0
  rw[Fv] at h0
  exact QK (fun h=>ih h) h0
theorem Sy {N:Nat} :∀{p0:AD} {r:AD},KZ N p0=some r→Aa Tryz.prog 97 [(Bt p0)] [] (fun v st=>v=(Ox r)∧st=[(DU r)]):=by
 intro p0 r h0
 exact Qj N h0
theorem Su {N:Nat} {p0:Ah} {r:Ah} (h0:I6 N p0=some r):Aa Tryz.prog 52 [(.agg (T6 p0))] [] (fun v st=>v=(.agg (cx r))∧st=[(ro 0 3 1 eI r.params),(Iu r)]):=by
 unfold I6 at h0
 refine Aa.wk (r0:=(.agg (cx r))) (st0:=[(ro 0 3 1 eI r.params),(Iu r),⟨0,48,5,[(cx r)]⟩]) ?_ (FZ (L:=[(0,(.agg (cx r)))]) (st':=[(ro 0 3 1 eI r.params),(Iu r)]) [0,1] U (by decide) rfl U (.pure (AJ fun _=>U) (.deep (AR Ag) trivial)) (.same U))
 refine ai Tryz.func52 U U U U (sr U fun K1 hK1=>A7 (m:=0) Ac U U U U U (As (m:=1) Ac N5 U U (dn hK1 U (sr U fun K2 hK2=>As (m:=2) Ac N5 U U (dn hK2 U (sr U fun K3 hK3=>zm tb 2 U (bs h0 fun q4 gq4 h0=>BF (v':=(ow 3 0 q4)) Ac (hb 96) (NL gq4) rfl U ⟨(BZ fun _=>U),trivial⟩ U U ?_)))))))
 refine zq tb U (Ay Ac H3 U U U U U U (show 0+1≤5 by decide) rfl (dn hK3 U (sr U fun K5 hK5=>zm tb 3 U (Ay Ac Ja U U U U U U (show 1+1≤5 by decide) rfl (dn hK5 U (sr U fun K6 hK6=>zm tb 2 U (bs h0 fun q7 gq7 h0=>BF (v':=(.agg [(i64 q7.op),(i64 q7.num),(ow 4 0 q7.kids)])) Ac (hb 97) (Sy gq7) rfl U ⟨(AR Ag),trivial⟩ U U (zq tb U ?_))))))))
 refine Ay Ac Cz U U U U U U (show 2+3≤5 by decide) rfl (dn hK6 U (sr U fun K8 hK8=>zq tb U (Ay Ac QZ U U U U U U (show 0+5≤5 by decide) rfl (dn hK8 U ?_))))
 obtain rfl:=Sh.AA h0
 exact AI (Exists.intro _ (And.intro ((A5 (L:=[(2,BD)]) (st':=[(BB q4),(DU q7),⟨0,48,5,[[(ow 0 0 q4),(i64 p0.result),(i64 q7.op),(i64 q7.num),(ow 1 0 q7.kids)]]⟩]) (st1:=[(BB q4),(DU q7),⟨0,48,5,[[(ow 3 0 q4),(i64 p0.result),(i64 q7.op),(i64 q7.num),(ow 4 0 q7.kids)]]⟩]) [3,4,1] U .nil (by decide) rfl U (.pure (AJ fun _=>U) (.deep (AR Ag) (.raw U U .nil))) (.same U)).trans (AS (L:=[(2,BD)]) (.same U))) (BM (x:=.tmp 2) (off:=0) (cs:=[(ow 0 0 q4),(i64 p0.result),(i64 q7.op),(i64 q7.num),(ow 1 0 q7.kids)]) (vs:=[(ow 0 0 q4),(i64 p0.result),(i64 q7.op),(i64 q7.num),(ow 1 0 q7.kids)]) QZ U U U (show 0+5≤5 by decide) rfl _ ⟨U,U⟩)))
theorem SE {N:Nat} {p0:(List Ah)} {r:(List Ah)} (h0:IS N p0=some r):Aa Tryz.prog 23 [(ls Ar p0)] [] (fun v st=>v=(ow 0 0 r)∧st=[(CM r)]):=by
 unfold IS at h0
 refine ai Tryz.func23 U U U U (zr tb U U (sr U fun K2 hK2=>zq tb U (zl tb U U (bs h0 fun l3 gl3 h0=>OU (m:=0) (st':=[(CM l3)]) (enc:=(A2 3 44)) (u:=(Ah.mk [] 0 (AD.mk 0 0 []))) B3 U U ⟨.inr ⟨U,_,_,U,by decide⟩,⟨.inl ⟨U,U⟩,⟨.inl ⟨U,U⟩,⟨.inl ⟨U,U⟩,⟨.inr ⟨U,_,_,U,by decide⟩,trivial⟩⟩⟩⟩⟩ gl3 U U (zq tb U (dn hK2 U (AB fun K4 hK4=>zr tb U U (bs h0 fun o9 h1 h0=>?_))))))))
 have M9 :∀(l8:(List Ah)),o9=l8→∀s,Wk 0 s ⟨23,AL [(3,(ow 0 0 l8))],[(CM l8)]⟩→K4 s:=by
  intro l8 hq s hw
  subst o9
  try dsimp only at h0
  refine hK4 _ (AM hw (zr tb U U ?_))
  obtain rfl:=Sh.AA h0
  exact AI (xr (AS (L:=[(2,(ow 0 0 l8))]) (.same U)))
 refine AP (Ak (σ:=Int×(List Ah)) (fun n v=>Ek N p0 n v.1 v.2=some o9) (fun (i6,l7)=>⟨23,AL [(0,(ls Ar p0)),(3,(ow 0 0 l7)),(4,(i64 i6))],[(ro 0 48 5 (A2 3 44) l7)]⟩) N (0,l3) h1 (AH U) (fun _ hv=>by rw[Ek] at hv;cases hv) ?_)
 rintro n ⟨i6,l7⟩ h1
 try dsimp only at h1 ⊢
 rw[Ek] at h1
 refine AB fun K11 hK11=>sr U fun K12 hK12=>zm tb 2 U (zl tb U U (zq tb U (dn hK12 U ?_)))
 refine ci h1 U ?_ ?_ <;> clear h1 <;> intro b13 h1
 ·refine AG (hK11 _ (AB fun K14 hK14=>AP (AF U (zm tb 4 U (bs h1 fun c15 gc15 h1=>zx dZ gc15 U U U (zq tb U (bs h1 fun q16 gq16 h1=>BF (v':=(.agg [(ow 1 0 q16.params),(i64 q16.result),(i64 q16.body.op),(i64 q16.body.num),(ow 2 0 q16.body.kids)])) Ac (hb 52) (Su gq16) rfl U ⟨(BZ fun _=>U),⟨(AR Ag),trivial⟩⟩ U U (bs h1 fun c17 gc17 h1=>zz (NR i6) (Bb B3 U U U U gc17) rfl ?_))))))))
  refine TM (st':=[⟨0,48,5,hole l7 (A2 3 44) i6 [(ow 1 0 q16.params),(i64 q16.result),(i64 q16.body.op),(i64 q16.body.num),(ow 2 0 q16.body.kids)]⟩,(ro 0 3 1 eI q16.params),(Iu q16)]) Ac QZ U U gc17 U U U (show 5≤5 by decide) rfl U ?_
  refine Af (Wk.take (id:=0) (m:=1) (j:=0) (i:=i6) (c:=c17) (ys:=q16.params) (encY:=eI) rfl gc17 U U U (by decide) (show 0≤1 by decide) (fun _=>U) rfl U) ?_
  refine Af (Wk.take (id:=0) (m:=2) (j:=4) (i:=i6) (c:=c17) (ys:=q16.body.kids) (encY:=(Au 44)) rfl gc17 U U U (by decide) (show 0≤2 by decide) Dz U U) ?_
  refine Af (Ew (id:=0) (i:=i6) (u:=q16) rfl U U) (dn hK14 U (AF U (zm tb 3 U ?_)))
  exact AE (xi (Sh.w (i6+1),Sh.put l7 i6 q16) h1 (by refine Wk.trans (AU (L:=[(0,(.sl (List.map Ar p0))),(3,(.own 0 0 (List.length l7))),(4,(i64 (Sh.w (i6+1))))]) (st':=[⟨0,48,5,List.map (A2 3 44) (Sh.put l7 i6 q16)⟩]) [0] U (by decide) rfl U (.deep (AR fun _=>U) .nil) ⟨.rfl,.rfl,.rfl,trivial⟩) ?_;exact AS (L:=[(0,(.sl (List.map Ar p0))),(3,(.own 0 0 (List.length (Sh.put l7 i6 q16)))),(4,(i64 (Sh.w (i6+1))))]) ⟨.rfl,(.len (by simp only[Sh.Az])),.rfl,trivial⟩))
 ·exact Ao (M9 l7 (Sh.AA h1).symm _ (AH U))
theorem Gq {N:Nat} {p0:AN} {r:AN} (h0:E1 N p0=some r):Aa Tryz.prog 8 [(HH p0)] [] (fun v st=>v=(.agg [(ow 0 0 r.decls),(ow 1 0 r.funcs)])∧st=[(ro 0 81 3 (Ad 111 3) r.decls),(QM r)]):=by
 unfold E1 at h0
 refine Aa.wk (r0:=(.agg [(ow 0 0 r.decls),(ow 1 0 r.funcs)])) (st0:=[(ro 0 81 3 (Ad 111 3) r.decls),(QM r),⟨0,30,2,[[(ow 0 0 r.decls),(ow 1 0 r.funcs)]]⟩]) ?_ (FZ (L:=[(0,(.agg [(ow 0 0 r.decls),(ow 1 0 r.funcs)]))]) (st':=[(ro 0 81 3 (Ad 111 3) r.decls),(QM r)]) [0,1] U (by decide) rfl U (.deep (AR fun _=>U) (.deep (AR fun _=>U) trivial)) (.same U))
 refine ai Tryz.func8 U U U U (sr U fun K1 hK1=>A7 (m:=0) Ac U U U U U (As (m:=1) Ac H5 U U (dn hK1 U (sr U fun K2 hK2=>As (m:=2) Ac H5 U U (dn hK2 U (sr U fun K3 hK3=>zm tb 2 U (bs h0 fun q4 gq4 h0=>BF (v':=(ow 3 0 q4)) Ac (hb 22) (Rq gq4) rfl U ⟨(AR fun _=>U),trivial⟩ U U ?_)))))))
 refine zq tb U (Ay Ac dd U U U U U U (show 0+1≤2 by decide) rfl (dn hK3 U (sr U fun K5 hK5=>zm tb 2 U (bs h0 fun q6 gq6 h0=>BF (v':=(ow 4 0 q6)) Ac (hb 23) (SE gq6) rfl U ⟨(AR fun _=>U),trivial⟩ U U (zq tb U (Ay Ac bB U U U U U U (show 1+1≤2 by decide) rfl (dn hK5 U (sr U fun K7 hK7=>zq tb U ?_))))))))
 refine Ay Ac Fw U U U U U U (show 0+2≤2 by decide) rfl (dn hK7 U ?_)
 obtain rfl:=Sh.AA h0
 exact AI (Exists.intro _ (And.intro ((A5 (L:=[(2,BD)]) (st':=(cN q4 q6)) (st1:=[(FD q4),(CM q6),⟨0,30,2,[[(ow 3 0 q4),(ow 4 0 q6)]]⟩]) [3,4,1] U .nil (by decide) rfl U (.deep (AR fun _=>U) (.deep (AR fun _=>U) (.raw U U .nil))) (.same U)).trans (AS (L:=[(2,BD)]) (.same U))) (BM (x:=.tmp 2) (off:=0) (cs:=(Uu q4 q6)) (vs:=(Uu q4 q6)) Fw U U U (show 0+2≤2 by decide) rfl _ ⟨U,U⟩)))
theorem CN {p0:Int} {p1:Int} {p2:Int} {r:Bool} (h0:B4 p0 p1 p2=some r):Aa Tryz.prog 71 [(i64 p0),(i64 p1),(i64 p2)] [] (fun v st=>v=(.bool r)∧st=[]):=by
 unfold B4 at h0
 refine ai Tryz.func71 U U U U (zr tb U U (AB fun K2 hK2=>bs h0 fun o4 h1 h0=>?_))
 have M4 :∀(t3:Bool),o4=t3→∀s,Wk 0 s ⟨15,AL [(6,(.bool t3))],[]⟩→K2 s:=by
  intro t3 hq s hw
  subst o4
  try dsimp only at h0
  refine hK2 _ (AM hw ?_)
  obtain rfl:=Sh.AA h0
  exact AI (xr (AS (L:=[(6,(.bool t3))]) (.same U)))
 refine AF U (zm tb 4 U ?_)
 rcases Sh.Ap h1 with ⟨b5,h1⟩ | ⟨b5,h1⟩
 ·exact zg tb b5 U (zg tb b5 U (zg tb b5 U (zt b5 U (zq tb U (AE (M4 (decide (p0≤p2)) (Sh.AA h1).symm _ (AH U)))))))
 ·exact zs b5 U (zs b5 U (zs b5 U (zf b5 U (zq tb U (AE (M4 false (Sh.AA h1).symm _ (AH U)))))))
theorem Lf {N:Nat} {p0:(List Ab)} {p1:(List Int)} {r:Bool} (h0:GY N p0 p1=some r):Aa Tryz.prog 85 [(Bf p0),(ls eI p1)] [] (fun v st=>v=(.bool r)∧st=[]):=by
 unfold GY at h0
 refine ai Tryz.func85 U U U U (zr tb U U (AB fun K2 hK2=>zr tb U U ?_))
 obtain⟨o5,h1,h0⟩:=Sh.A8 h0
 have M5 :∀(_:Unit),o5=Sum.inr ()→∀s,Wk 0 s ⟨20,AL [],[]⟩→K2 s:=by
  intro _ hq s hw
  subst o5
  try dsimp only at h0
  refine hK2 _ (AM hw (zr tb U U ?_))
  obtain rfl:=Sh.AA h0
  exact AI (xr (AS (L:=[(4,(.bool true))]) (.same U)))
 refine AP (Ak (σ:=Int) (fun n v=>EC p0 p1 n v=some o5) (fun i4=>⟨20,AL [(0,(ls AT p0)),(1,(ls eI p1)),(5,(i64 i4))],[]⟩) N 0 h1 (AH U) (fun _ hv=>by rw[EC] at hv;cases hv) ?_)
 rintro n i4 h1
 try dsimp only at h1 ⊢
 rw[EC] at h1
 refine AB fun K7 hK7=>sr U fun K8 hK8=>zm tb 2 U (zl tb U U (zq tb U (dn hK8 U ?_)))
 refine ci h1 U ?_ ?_ <;> clear h1 <;> intro b9 h1
 ·refine AG (hK7 _ (AB fun K10 hK10=>AP (sr U fun K11 hK11=>zm tb 2 U (bs h1 fun c12 gc12 h1=>zx BJ gc12 U U U (zm tb 2 U (zl tb U U (bs h1 fun q13 gq13 h1=>zc (hb 71) (CN gq13) rfl U U (zq tb U ?_))))))))
  refine dn hK11 U ?_
  refine ci h1 U ?_ ?_ <;> clear h1 <;> intro b14 h1
  ·have b15:q13=false:=by simpa using b14
   refine zr tb U U ?_
   obtain rfl:=Sh.AA h1
   try dsimp only[id] at h0
   obtain rfl:=Sh.AA h0
   exact AI (xr (AS (L:=[(4,(.bool false))]) (.same U)))
  ·have b17:q13=true:=by simpa using b14
   exact AG (hK10 _ (AF U (zm tb 3 U (AE (xi (Sh.w (i4+1)) h1 (AH U))))))
 ·exact Ao (M5 () (Sh.AA h1).symm _ (AH U))
theorem PY {N:Nat} {p0:(List Ab)} {p1:Int} {r:Bool} (h0:HE N p0 p1=some r):Aa Tryz.prog 121 [(Bf p0),(i64 p1)] [] (fun v st=>v=(.bool r)∧st=[]):=by
 unfold HE at h0
 refine ai Tryz.func121 U U U U (zr tb U U (sr U fun K2 hK2=>zm tb 2 U (bs h0 fun c3 gc3 h0=>zx DO gc3 U U U (zq tb U (As (m:=0) Ac Gm U U (Ay Ac Ji U U U U U U (show 0+3≤3 by decide) rfl (dn hK2 U (AB fun K4 hK4=>sr U fun K5 hK5=>?_))))))))
 refine zm tb 2 U (zl tb U U (zq tb U (dn hK5 U ?_)))
 refine ci h0 U ?_ ?_ <;> clear h0 <;> intro b6 h0
 ·refine AB fun K7 hK7=>AB fun K8 hK8=>bs h0 fun o10 h1 h0=>?_
  have M10 :∀(t9:Bool),o10=t9→∀s,Wk 0 s ⟨100,AL [(0,(Bf p0)),(5,Am),(29,(.bool t9))],[(Sp c3)]⟩→K8 s:=by
   intro t9 hq s hw
   subst o10
   try dsimp only at h0
   refine hK8 _ (AM hw ?_)
   refine ci h0 U ?_ ?_ <;> clear h0 <;> intro b11 h0
   ·refine zr tb U U ?_
    obtain rfl:=Sh.AA h0
    exact AI (xr (Ai [(4,(.bool false))] U))
   ·refine AG (hK7 _ (AB fun K13 hK13=>zr tb U U ?_))
    obtain⟨o16,h1,h0⟩:=Sh.A8 h0
    have M16 :∀(_:Unit),o16=Sum.inr ()→∀s,Wk 0 s ⟨100,AL [],[]⟩→K13 s:=by
     intro _ hq s hw
     subst o16
     try dsimp only at h0
     refine hK13 _ (AM hw (zr tb U U ?_))
     obtain rfl:=Sh.AA h0
     exact AI (xr (AS (L:=[(4,(.bool true))]) (.same U)))
    refine AP (Ak (σ:=Int) (fun n v=>Dl N c3 p0 n v=some o16) (fun i15=>⟨100,AL [(0,(ls AT p0)),(5,(.ptr 0 0 0 0)),(6,(i64 i15))],[⟨0,81,3,[(AT c3)]⟩]⟩) N 0 h1 (AH U) (fun _ hv=>by rw[Dl] at hv;cases hv) ?_)
    rintro n i15 h1
    try dsimp only at h1 ⊢
    rw[Dl] at h1
    refine AB fun K18 hK18=>sr U fun K19 hK19=>zm tb 3 U (zl tb U U (zq tb U (dn hK19 U ?_)))
    refine ci h1 U ?_ ?_ <;> clear h1 <;> intro b20 h1
    ·refine AG (hK18 _ (AB fun K21 hK21=>AP (AB fun K22 hK22=>bs h1 fun o24 h2 h1=>?_)))
     have M24 :∀(t23:Bool),o24=t23→∀s,Wk 0 s ⟨100,AL [(0,(Bf p0)),(5,Am),(6,(i64 i15)),(55,(.bool t23))],[(Sp c3)]⟩→K22 s:=by
      intro t23 hq s hw
      subst o24
      try dsimp only at h1
      refine hK22 _ (AM hw ?_)
      refine ci h1 U ?_ ?_ <;> clear h1 <;> intro b25 h1
      ·refine zr tb U U ?_
       obtain rfl:=Sh.AA h1
       try dsimp only[id] at h0
       obtain rfl:=Sh.AA h0
       exact AI (xr (Ai [(4,(.bool false))] U))
      ·exact AG (hK21 _ (AF U (zm tb 3 U (AE (xi (Sh.w (i15+1)) h1 (AH U))))))
     refine AF U (zm tb 3 U (bs h2 fun c27 gc27 h2=>zx Io gc27 U U U (zm tb 2 U (zl tb U U (zm tb 2 U ?_)))))
     rcases Sh.Ap h2 with ⟨b28,h2⟩ | ⟨b28,h2⟩
     ·refine zs b28 U ?_
      iterate 8 refine zs b28 rfl ?_
      exact zt b28 U (AE (M24 true (Sh.AA h2).symm _ (AH U)))
     ·refine zg tb b28 U ?_
      iterate 3 refine zg tb b28 rfl ?_
      exact BH (v:=(.Bd (BR c27) 0)) (DT U U b28) rfl (FC Io U U gc27 U) (zg tb b28 U (zg tb b28 U (bs h2 fun q29 gq29 h2=>zd b28 (hb 85) (Lf gq29) rfl U U U (zg tb b28 U (zf b28 U (AE (M24 (!q29) (Sh.AA h2).symm _ (AH U))))))))
    ·exact Ao (M16 () (Sh.AA h1).symm _ (Ai _ U))
  refine AF U (zm tb 2 U (zl tb U U (zm tb 2 U ?_)))
  rcases Sh.Ap h1 with ⟨b30,h1⟩ | ⟨b30,h1⟩
  ·refine zs b30 U (zs b30 U (zs b30 U (zt b30 U (zq tb U ?_))))
   iterate 3 refine zs rfl rfl ?_
   exact zt U U (AE (M10 true (Sh.AA h1).symm _ (AH U)))
  ·refine zg tb b30 U (zg tb b30 U (zg tb b30 U (zf b30 U (zq tb U ?_))))
   rcases Sh.Ap h1 with ⟨b31,h1⟩ | ⟨b31,h1⟩
   ·exact zs b31 U (zs b31 U (zs b31 U (zt b31 U (AE (M10 true (Sh.AA h1).symm _ (AH U))))))
   ·exact zg tb b31 U (zg tb b31 U (zg tb b31 U (zf b31 U (AE (M10 (!decide (c3.to=0)) (Sh.AA h1).symm _ (AH U))))))
 ·refine AG (hK4 _ (AB fun K32 hK32=>zr tb U U ?_))
  obtain⟨o35,h1,h0⟩:=Sh.A8 h0
  have M35 :∀(_:Unit),o35=Sum.inr ()→∀s,Wk 0 s ⟨100,AL [(0,(Bf p0)),(5,Am)],[(Sp c3)]⟩→K32 s:=by
   intro _ hq s hw
   subst o35
   try dsimp only at h0
   refine hK32 _ (AM hw (AB fun K36 hK36=>bs h0 fun o38 h1 h0=>?_))
   have M38 :∀(t37:Bool),o38=t37→∀s,Wk 0 s ⟨100,AL [(4,(.bool t37))],[]⟩→K36 s:=by
    intro t37 hq s hw
    subst o38
    try dsimp only at h0
    refine hK36 _ (AM hw ?_)
    obtain rfl:=Sh.AA h0
    exact AI (xr (AS (L:=[(4,(.bool t37))]) (.same U)))
   refine AF U (zm tb 3 U (zl tb U U (bs h1 fun q39 gq39 h1=>zc (hb 71) (CN gq39) rfl U U (zq tb U ?_))))
   rcases Sh.Ap h1 with ⟨b40,h1⟩ | ⟨b40,h1⟩
   ·exact zg tb b40 U (zg tb b40 U (zg tb b40 U (BH (v:=(B0 p0)) (DT U U b40) rfl (CK Qu U) (bs h1 fun q41 gq41 h1=>zd b40 (hb 71) (CN gq41) rfl U U U (zt b40 U (zq tb U (AE (M38 q41 (Sh.AA h1).symm _ (Ai _ U)))))))))
   ·refine zs b40 U ?_
    iterate 4 refine zs b40 rfl ?_
    exact zf b40 U (zq tb U (AE (M38 false (Sh.AA h1).symm _ (Ai _ U))))
  refine AP (Ak (σ:=Int) (fun n v=>Ds c3 p0 p1 n v=some o35) (fun i34=>⟨100,AL [(0,(ls AT p0)),(1,(i64 p1)),(5,(.ptr 0 0 0 0)),(7,(i64 i34))],[⟨0,81,3,[(AT c3)]⟩]⟩) N 0 h1 (AH U) (fun _ hv=>by rw[Ds] at hv;cases hv) ?_)
  rintro n i34 h1
  try dsimp only at h1 ⊢
  rw[Ds] at h1
  refine AB fun K42 hK42=>zr tb U U ?_
  refine ci h1 U ?_ ?_ <;> clear h1 <;> intro b44 h1
  ·refine AG (hK42 _ (AB fun K45 hK45=>AP (AB fun K46 hK46=>bs h1 fun o48 h2 h1=>?_)))
   have M48 :∀(t47:Bool),o48=t47→∀s,Wk 0 s ⟨100,AL [(0,(Bf p0)),(1,(i64 p1)),(5,Am),(7,(i64 i34)),(87,(.bool t47))],[(Sp c3)]⟩→K46 s:=by
    intro t47 hq s hw
    subst o48
    try dsimp only at h1
    refine hK46 _ (AM hw ?_)
    refine ci h1 U ?_ ?_ <;> clear h1 <;> intro b49 h1
    ·refine zr tb U U ?_
     obtain rfl:=Sh.AA h1
     try dsimp only[id] at h0
     obtain rfl:=Sh.AA h0
     exact AI (xr (Ai [(4,(.bool false))] U))
    ·exact AG (hK45 _ (AF U (zm tb 3 U (AE (xi (Sh.w (i34+1)) h1 (AH U))))))
   refine Bk (by kernel_rfl) (by kernel_rfl) (by rfl) ?_
   iterate 2 refine yq tb rfl ?_
   refine bs h2 fun c51 gc51 h2=>yx DO gc51 U U U ?_
   iterate 2 refine yq tb rfl ?_
   refine yl tb U U ?_
   iterate 2 refine yq tb rfl ?_
   rcases Sh.Ap h2 with ⟨b52,h2⟩ | ⟨b52,h2⟩
   ·refine yg tb b52 U (yg tb b52 U (Kh (v:=(.Bd (AT c51) 0)) (DT U U b52) rfl (FC DO U U gc51 U) ?_))
    iterate 5 refine yg tb b52 rfl ?_
    refine yt b52 U (yq tb U ?_)
    rcases Sh.Ap h2 with ⟨b53,h2⟩ | ⟨b53,h2⟩
    ·refine yg tb b53 U (yg tb b53 U (Kh (v:=(.Bd (AT c51) 0)) (DT U U b53) rfl (FC DO U U gc51 U) ?_))
     iterate 5 refine yg tb b53 rfl ?_
     exact yt b53 U (BL (M48 (decide (c51.to=c3.to)) (Sh.AA h2).symm _ (AH U)))
    ·refine ys b53 U ?_
     iterate 7 refine ys b53 rfl ?_
     exact yf b53 U (BL (M48 false (Sh.AA h2).symm _ (AH U)))
   ·refine ys b52 U ?_
    iterate 7 refine ys b52 rfl ?_
    refine yf b52 U (yq tb U ?_)
    iterate 8 refine ys rfl rfl ?_
    exact yf U U (BL (M48 false (Sh.AA h2).symm _ (AH U)))
  ·exact Ao (M35 () (Sh.AA h1).symm _ (AH U))
theorem Oh {N:Nat} {p0:(List Ab)} {r:Bool} (h0:Gb N p0=some r):Aa Tryz.prog 84 [(Bf p0)] [] (fun v st=>v=(.bool r)∧st=[]):=by
 unfold Gb at h0
 refine ai Tryz.func84 U U U U (zr tb U U (AB fun K2 hK2=>sr U fun K3 hK3=>zq tb U (zl tb U U (zq tb U (dn hK3 U ?_)))))
 refine ci h0 U ?_ ?_ <;> clear h0 <;> intro b4 h0
 ·refine zr tb U U ?_
  obtain rfl:=Sh.AA h0
  exact AI (xr (AS (L:=[(2,(.bool false))]) (.same U)))
 ·refine AG (hK2 _ (AB fun K6 hK6=>zr tb U U ?_))
  obtain⟨o9,h1,h0⟩:=Sh.A8 h0
  have M9 :∀(_:Unit),o9=Sum.inr ()→∀s,Wk 0 s ⟨17,AL [],[]⟩→K6 s:=by
   intro _ hq s hw
   subst o9
   try dsimp only at h0
   refine hK6 _ (AM hw (zr tb U U ?_))
   obtain rfl:=Sh.AA h0
   exact AI (xr (AS (L:=[(2,(.bool true))]) (.same U)))
  refine AP (Ak (σ:=Int) (fun n v=>DS N p0 n v=some o9) (fun i8=>⟨17,AL [(0,(ls AT p0)),(3,(i64 i8))],[]⟩) N 0 h1 (AH U) (fun _ hv=>by rw[DS] at hv;cases hv) ?_)
  rintro n i8 h1
  try dsimp only at h1 ⊢
  rw[DS] at h1
  refine AB fun K11 hK11=>sr U fun K12 hK12=>zm tb 2 U (zl tb U U (zq tb U (dn hK12 U ?_)))
  refine ci h1 U ?_ ?_ <;> clear h1 <;> intro b13 h1
  ·refine AG (hK11 _ (AB fun K14 hK14=>AP (sr U fun K15 hK15=>zm tb 2 U (bs h1 fun q16 gq16 h1=>zc (hb 121) (PY gq16) rfl U U (zq tb U (dn hK15 U ?_))))))
   refine ci h1 U ?_ ?_ <;> clear h1 <;> intro b17 h1
   ·have b18:q16=false:=by simpa using b17
    refine zr tb U U ?_
    obtain rfl:=Sh.AA h1
    try dsimp only[id] at h0
    obtain rfl:=Sh.AA h0
    exact AI (xr (AS (L:=[(2,(.bool false))]) (.same U)))
   ·have b20:q16=true:=by simpa using b17
    exact AG (hK14 _ (AF U (zm tb 3 U (AE (xi (Sh.w (i8+1)) h1 (AH U))))))
  ·exact Ao (M9 () (Sh.AA h1).symm _ (AH U))
theorem Pa {N:Nat} {p0:AN} {r:Bool} (h0:GC N p0=some r):Aa Tryz.prog 44 [(HH p0)] [] (fun v st=>v=(.bool r)∧st=[]):=by
 unfold GC at h0
 refine ai Tryz.func44 U U U U (sr U fun K1 hK1=>A7 (m:=0) Ac U U U U U (zq tb U (dn hK1 U (AB fun K2 hK2=>AB fun K3 hK3=>bs h0 fun o5 h1 h0=>?_))))
 have M5 :∀(t4:Bool),o5=t4→∀s,Wk 0 s ⟨64,AL [(1,Am),(15,(.bool t4))],[(Jc p0.decls p0.funcs)]⟩→K3 s:=by
  intro t4 hq s hw
  subst o5
  try dsimp only at h0
  refine hK3 _ (AM hw ?_)
  refine ci h0 U ?_ ?_ <;> clear h0 <;> intro b6 h0
  ·refine zr tb U U ?_
   obtain rfl:=Sh.AA h0
   exact AI (xr (Ai [(2,(.bool false))] U))
  ·refine AG (hK2 _ (AB fun K8 hK8=>zr tb U U ?_))
   obtain⟨o11,h1,h0⟩:=Sh.A8 h0
   have M11 :∀(_:Unit),o11=Sum.inr ()→∀s,Wk 0 s ⟨64,AL [(1,Am)],[(Jc p0.decls p0.funcs)]⟩→K8 s:=by
    intro _ hq s hw
    subst o11
    try dsimp only at h0
    refine hK8 _ (AM hw (AB fun K12 hK12=>bs h0 fun o14 h1 h0=>?_))
    have M14 :∀(t13:Bool),o14=t13→∀s,Wk 0 s ⟨64,AL [(2,(.bool t13))],[]⟩→K12 s:=by
     intro t13 hq s hw
     subst o14
     try dsimp only at h0
     refine hK12 _ (AM hw ?_)
     obtain rfl:=Sh.AA h0
     exact AI (xr (AS (L:=[(2,(.bool t13))]) (.same U)))
    refine AF U (zm tb 2 U (bs h1 fun c15 gc15 h1=>zx B3 gc15 U U U (zm tb 2 U (zl tb U U (zm tb 2 U ?_)))))
    rcases Sh.Ap h1 with ⟨b16,h1⟩ | ⟨b16,h1⟩
    ·refine zg tb b16 U (zg tb b16 U (BH (v:=(.Bd (Ar c15) 0)) (DT U U b16) rfl (FC B3 U U gc15 U) ?_))
     iterate 3 refine zg tb b16 rfl ?_
     exact zt b16 U (zq tb U (AE (M14 (decide (c15.result=0)) (Sh.AA h1).symm _ (Ai _ U))))
    ·refine zs b16 U ?_
     iterate 5 refine zs b16 rfl ?_
     exact zf b16 U (zq tb U (AE (M14 false (Sh.AA h1).symm _ (Ai _ U))))
   refine AP (Ak (σ:=Int) (fun n v=>C7 N p0 n v=some o11) (fun i10=>⟨64,AL [(1,(.ptr 0 0 0 0)),(3,(i64 i10))],[(Jc p0.decls p0.funcs)]⟩) N 0 h1 (AH U) (fun _ hv=>by rw[C7] at hv;cases hv) ?_)
   rintro n i10 h1
   try dsimp only at h1 ⊢
   rw[C7] at h1
   refine AB fun K17 hK17=>sr U fun K18 hK18=>zm tb 3 U (zl tb U U (zq tb U (dn hK18 U ?_)))
   refine ci h1 U ?_ ?_ <;> clear h1 <;> intro b19 h1
   ·refine AG (hK17 _ (AB fun K20 hK20=>AP (sr U fun K21 hK21=>zm tb 3 U (bs h1 fun c22 gc22 h1=>zx B3 gc22 U U U (zq tb U (As (m:=1) Ac N5 U U (Ay Ac QZ U U U U U U (show 0+5≤5 by decide) rfl (dn hK21 U (AB fun K23 hK23=>?_)))))))))
    refine bs h1 fun o25 h2 h1=>?_
    have M25 :∀(t24:Bool),o25=t24→∀s,Wk 0 s ⟨64,AL [(1,Am),(3,(i64 i10)),(48,(.bool t24))],[(Jc p0.decls p0.funcs)]⟩→K23 s:=by
     intro t24 hq s hw
     subst o25
     try dsimp only at h1
     refine hK23 _ (AM hw ?_)
     refine ci h1 U ?_ ?_ <;> clear h1 <;> intro b26 h1
     ·refine zr tb U U ?_
      obtain rfl:=Sh.AA h1
      try dsimp only[id] at h0
      obtain rfl:=Sh.AA h0
      exact AI (xr (Ai [(2,(.bool false))] U))
     ·exact AG (hK20 _ (AF U (zm tb 3 U (AE (xi (Sh.w (i10+1)) h1 (AH U))))))
    refine AF U (zm tb 2 U (zl tb U U (zm tb 2 U ?_)))
    rcases Sh.Ap h2 with ⟨b28,h2⟩ | ⟨b28,h2⟩
    ·refine zs b28 U ?_
     iterate 5 refine zs b28 rfl ?_
     refine zt b28 U (zq tb U ?_)
     iterate 7 refine zs rfl rfl ?_
     refine zt U U ?_
     exact AE (M25 true (Sh.AA h2).symm _ (AU [0] U (by decide) rfl U (.raw U U .nil) (.same U)))
    ·refine zg tb b28 U ?_
     iterate 3 refine zg tb b28 rfl ?_
     refine bs h2 fun q29 gq29 h2=>zd b28 (hb 85) (Lf gq29) rfl U U U (zg tb b28 U (zf b28 U (zq tb U ?_)))
     rcases Sh.Ap h2 with ⟨b30,h2⟩ | ⟨b30,h2⟩
     ·refine zs b30 U ?_
      iterate 6 refine zs b30 rfl ?_
      refine zt b30 U ?_
      exact AE (M25 true (Sh.AA h2).symm _ (AU [0] U (by decide) rfl U (.raw U U .nil) (.same U)))
     ·refine zg tb b30 U ?_
      iterate 3 refine zg tb b30 rfl ?_
      refine BH (v:=(i64 (Sh.len p0.decls))) (DT U U b30) rfl (CK Qu U) (bs h2 fun q31 gq31 h2=>zd b30 (hb 71) (CN gq31) rfl U U U (zg tb b30 U (zf b30 U ?_)))
      exact AE (M25 (!q31) (Sh.AA h2).symm _ (AU [0] U (by decide) rfl U (.raw U U .nil) (.same U)))
   ·exact Ao (M11 () (Sh.AA h1).symm _ (AH U))
 refine AF U (zm tb 2 U (bs h1 fun q32 gq32 h1=>zc (hb 84) (Oh gq32) rfl U U (zm tb 2 U ?_)))
 rcases Sh.Ap h1 with ⟨b33,h1⟩ | ⟨b33,h1⟩
 ·refine zs b33 U ?_
  iterate 4 refine zs b33 rfl ?_
  exact zt b33 U (AE (M5 true (Sh.AA h1).symm _ (AH U)))
 ·exact zg tb b33 U (zg tb b33 U (BH (v:=(i64 (Sh.len p0.funcs))) (DT U U b33) rfl (CK Vo U) (bs h1 fun q34 gq34 h1=>zd b33 (hb 71) (CN gq34) rfl U U U (zg tb b33 U (zf b33 U (AE (M5 (!q34) (Sh.AA h1).symm _ (AH U))))))))
theorem OO {N:Nat} {rec_spec_nodesLeft:AD→Int→Option (Int)} (hrec_spec_nodesLeft :∀{p0:AD} {p1:Int} {r:Int},rec_spec_nodesLeft p0 p1=some r→Aa Tryz.prog 86 [(Bt p0),(i64 p1)] [] (fun v st=>v=(i64 r)∧st=[])) {p0:AD} {p1:Int} {r:Int} (h0:HX N rec_spec_nodesLeft p0 p1=some r):Aa Tryz.prog 86 [(Bt p0),(i64 p1)] [] (fun v st=>v=(i64 r)∧st=[]):=by
 unfold HX at h0
 refine ai Tryz.func86 U U U U (sr U fun K1 hK1=>A7 (m:=0) Ac U U U U U (zq tb U (dn hK1 U (AB fun K2 hK2=>zr tb U U ?_))))
 refine ci h0 U ?_ ?_ <;> clear h0 <;> intro b4 h0
 ·refine zr tb U U ?_
  obtain rfl:=Sh.AA h0
  exact AI (xr (Ai [(4,(i64 (-1)))] U))
 ·refine AG (hK2 _ (zr tb U U (AB fun K7 hK7=>zr tb U U ?_)))
  obtain⟨o12,h1,h0⟩:=Sh.A8 h0
  have M12 :∀(left11:Int),o12=Sum.inr left11→∀s,Wk 0 s ⟨27,AL [(1,(i64 left11))],[]⟩→K7 s:=by
   intro left11 hq s hw
   subst o12
   try dsimp only at h0
   refine hK7 _ (AM hw (zr tb U U ?_))
   obtain rfl:=Sh.AA h0
   exact AI (xr (AS (L:=[(4,(i64 left11))]) (.same U)))
  refine AP (Ak (σ:=Int×Int) (fun n v=>CY p0 rec_spec_nodesLeft n v.1 v.2=some o12) (fun (left9,i10)=>⟨27,AL [(1,(i64 left9)),(2,(.ptr 0 0 0 0)),(5,(i64 i10))],[(Ml p0.op p0.num p0.kids)]⟩) N (Sh.w (p1 - 1),0) h1 (AH U) (fun _ hv=>by rw[CY] at hv;cases hv) ?_)
  rintro n ⟨left9,i10⟩ h1
  try dsimp only at h1 ⊢
  rw[CY] at h1
  refine AB fun K14 hK14=>sr U fun K15 hK15=>zm tb 3 U (zl tb U U (zq tb U (dn hK15 U ?_)))
  refine ci h1 U ?_ ?_ <;> clear h1 <;> intro b16 h1
  ·refine AG (hK14 _ (AB fun K17 hK17=>AP (sr U fun K18 hK18=>zm tb 3 U (bs h1 fun c19 gc19 h1=>zz (Ff c19) (BY Bw U U gc19 (Aw _) rfl) rfl (zm tb 2 U (bs h1 fun q20 gq20 h1=>zc (hb 86) (hrec_spec_nodesLeft gq20) rfl U U (zq tb U (dn hK18 U ?_))))))))
   refine zr tb U U ?_
   refine ci h1 U ?_ ?_ <;> clear h1 <;> intro b22 h1
   ·refine zr tb U U ?_
    obtain rfl:=Sh.AA h1
    try dsimp only[id] at h0
    obtain rfl:=Sh.AA h0
    exact AI (xr (Ai [(4,(i64 (-1)))] U))
   ·exact AG (hK17 _ (AF U (zm tb 3 U (AE (xi (q20,Sh.w (i10+1)) h1 (AH U))))))
  ·exact Ao (M12 left9 (Sh.AA h1).symm _ (Ai _ U))

theorem N1 {N:Nat} :∀(n:Nat),∀{p0:AD} {p1:Int} {r:Int},EG N n p0 p1=some r→Aa Tryz.prog 86 [(Bt p0),(i64 p1)] [] (fun v st=>v=(i64 r)∧st=[]):=by
 intro n
 induction n with
 | zero=>intro p0 p1 r h0;cases h0
 | succ n ih=>
  intro p0 p1 r h0
  rw[EG] at h0
  exact OO (fun h=>ih h) h0
theorem Pw {N:Nat} :∀{p0:AD} {p1:Int} {r:Int},KR N p0 p1=some r→Aa Tryz.prog 86 [(Bt p0),(i64 p1)] [] (fun v st=>v=(i64 r)∧st=[]):=by
 intro p0 p1 r h0
 exact N1 N h0
theorem L7 {N:Nat} {p0:AD} {r:Int} (h0:GU N p0=some r):Aa Tryz.prog 45 [(Bt p0)] [] (fun v st=>v=(i64 r)∧st=[]):=by
 unfold GU at h0
 refine ai Tryz.func45 U U U U (sr U fun K1 hK1=>A7 (m:=0) Ac U U U U U (zq tb U (dn hK1 U (sr U fun K2 hK2=>zq tb U (bs h0 fun q3 gq3 h0=>zc (hb 86) (Pw gq3) rfl U U (zq tb U (dn hK2 U (AB fun K4 hK4=>?_))))))))
 refine zr tb U U ?_
 refine ci h0 U ?_ ?_ <;> clear h0 <;> intro b6 h0
 ·refine zr tb U U ?_
  obtain rfl:=Sh.AA h0
  exact AI (xr (Ai [(2,(i64 (-1)))] U))
 ·refine AG (hK4 _ (zr tb U U ?_))
  obtain rfl:=Sh.AA h0
  exact AI (xr (Ai [(2,(i64 (Sh.w (30 - q3))))] U))
theorem MC {N:Nat} {rec_spec_typeOf:AN→(List Int)→AD→Option (Int)} (hrec_spec_typeOf :∀{p0:AN} {p1:(List Int)} {p2:AD} {r:Int},rec_spec_typeOf p0 p1 p2=some r→Aa Tryz.prog 46 (UY p0 p1 p2) [] (fun v st=>v=(i64 r)∧st=[])) {p0:AN} {p1:(List Int)} {p2:(List AD)} {p3:Int} {r:Bool} (h0:HL N rec_spec_typeOf p0 p1 p2 p3=some r):Aa Tryz.prog 87 [(HH p0),(ls eI p1),(EY p2),(i64 p3)] [] (fun v st=>v=(.bool r)∧st=[]):=by
 unfold HL at h0
 refine ai Tryz.func87 U U U U (sr U fun K1 hK1=>A7 (m:=0) Ac U U U U U (zq tb U (dn hK1 U (AB fun K2 hK2=>sr U fun K3 hK3=>zq tb U (zl tb U U (zm tb 2 U (dn hK3 U ?_)))))))
 refine ci h0 U ?_ ?_ <;> clear h0 <;> intro b4 h0
 ·have b5:decide ((Sh.len p2)=p3)=false:=by simpa using b4
  refine zr tb U U ?_
  obtain rfl:=Sh.AA h0
  exact AI (xr (Ai [(8,(.bool false))] U))
 ·have b7:decide ((Sh.len p2)=p3)=true:=by simpa using b4
  refine AG (hK2 _ (AB fun K8 hK8=>zr tb U U ?_))
  obtain⟨o11,h1,h0⟩:=Sh.A8 h0
  have M11 :∀(_:Unit),o11=Sum.inr ()→∀s,Wk 0 s ⟨27,AL [],[]⟩→K8 s:=by
   intro _ hq s hw
   subst o11
   try dsimp only at h0
   refine hK8 _ (AM hw (zr tb U U ?_))
   obtain rfl:=Sh.AA h0
   exact AI (xr (AS (L:=[(8,(.bool true))]) (.same U)))
  refine AP (Ak (σ:=Int) (fun n v=>Ej p0 p1 p2 p3 rec_spec_typeOf n v=some o11) (fun i10=>⟨27,AL [(1,(ls eI p1)),(2,(ls A4 p2)),(3,(i64 p3)),(4,(.ptr 0 0 0 0)),(9,(i64 i10))],[(Jc p0.decls p0.funcs)]⟩) N 0 h1 (AH U) (fun _ hv=>by rw[Ej] at hv;cases hv) ?_)
  rintro n i10 h1
  try dsimp only at h1 ⊢
  rw[Ej] at h1
  refine AB fun K13 hK13=>zr tb U U ?_
  refine ci h1 U ?_ ?_ <;> clear h1 <;> intro b15 h1
  ·refine AG (hK13 _ (AB fun K16 hK16=>AP (AB fun K17 hK17=>?_)))
   refine Bk (by kernel_rfl) (by kernel_rfl) (by rfl) ?_
   iterate 4 refine yq tb rfl ?_
   refine bs h1 fun c18 gc18 h1=>yz (Ff c18) (BY Bw U U gc18 (Aw _) rfl) rfl (yq tb U (bs h1 fun q19 gq19 h1=>Bh (v:=(i64 q19)) Ac (hb 46) (hrec_spec_typeOf gq19) rfl U U (yq tb U (BL (hK17 _ ?_)))))
   refine ci h1 U ?_ ?_ <;> clear h1 <;> intro b20 h1
   ·have b21:decide (q19=0)=false:=by simpa using b20
    refine zr tb U U ?_
    obtain rfl:=Sh.AA h1
    try dsimp only[id] at h0
    obtain rfl:=Sh.AA h0
    exact AI (xr (Ai [(8,(.bool false))] U))
   ·have b23:decide (q19=0)=true:=by simpa using b20
    exact AG (hK16 _ (AF U (zm tb 3 U (AE (xi (Sh.w (i10+1)) h1 (AH U))))))
  ·exact Ao (M11 () (Sh.AA h1).symm _ (Ai _ U))
theorem JW {N:Nat} {p0:(List Ab)} {p1:Int} {r:Int} (h0:Fu N p0 p1=some r):Aa Tryz.prog 112 [(Bf p0),(i64 p1)] [] (fun v st=>v=(i64 r)∧st=[]):=by
 unfold Fu at h0
 refine ai Tryz.func112 U U U U ?_
 iterate 2 refine zr tb rfl rfl ?_
 refine AB fun K3 hK3=>zr tb U U (bs h0 fun o8 h1 h0=>?_)
 have M8 :∀(n7:Int),o8=n7→∀s,Wk 0 s ⟨21,AL [(5,(i64 n7))],[]⟩→K3 s:=by
  intro n7 hq s hw
  subst o8
  try dsimp only at h0
  refine hK3 _ (AM hw (zr tb U U ?_))
  obtain rfl:=Sh.AA h0
  exact AI (xr (AS (L:=[(4,(i64 n7))]) (.same U)))
 refine AP (Ak (σ:=Int×Int) (fun n v=>DW p0 p1 n v.1 v.2=some o8) (fun (n5,i6)=>⟨21,AL [(0,(ls AT p0)),(1,(i64 p1)),(5,(i64 n5)),(6,(i64 i6))],[]⟩) N (0,0) h1 (AH U) (fun _ hv=>by rw[DW] at hv;cases hv) ?_)
 rintro n ⟨n5,i6⟩ h1
 try dsimp only at h1 ⊢
 rw[DW] at h1
 refine AB fun K10 hK10=>zr tb U U ?_
 refine ci h1 U ?_ ?_ <;> clear h1 <;> intro b12 h1
 ·refine AG (hK10 _ (AB fun K13 hK13=>AP (AF U (zm tb 3 U (bs h1 fun c14 gc14 h1=>zx DO gc14 U U U (zm tb 2 U (zl tb U U (zm tb 2 U (dn hK13 U (AF U ?_))))))))))
  exact zm tb 3 U (AE (xi (Sh.w (n5+(Sh.len c14.cons)),Sh.w (i6+1)) h1 (AH U)))
 ·exact Ao (M8 n5 (Sh.AA h1).symm _ (AH U))
theorem Jp {N:Nat} {p0:(List Ab)} {p1:Int} {r:Int} (h0:FI N p0 p1=some r):Aa Tryz.prog 88 [(Bf p0),(i64 p1)] [] (fun v st=>v=(i64 r)∧st=[]):=by
 unfold FI at h0
 refine ai Tryz.func88 U U U U (zr tb U U (AB fun K2 hK2=>zr tb U U ?_))
 obtain⟨o5,h1,h0⟩:=Sh.A8 h0
 have M5 :∀(_:Unit),o5=Sum.inr ()→∀s,Wk 0 s ⟨30,AL [],[]⟩→K2 s:=by
  intro _ hq s hw
  subst o5
  try dsimp only at h0
  refine hK2 _ (AM hw (zr tb U U ?_))
  obtain rfl:=Sh.AA h0
  exact AI (xr (AS (L:=[(4,(i64 (-1)))]) (.same U)))
 refine AP (Ak (σ:=Int) (fun n v=>Ct N p0 p1 n v=some o5) (fun i4=>⟨30,AL [(0,(ls AT p0)),(1,(i64 p1)),(5,(i64 i4))],[]⟩) N 0 h1 (AH U) (fun _ hv=>by rw[Ct] at hv;cases hv) ?_)
 rintro n i4 h1
 try dsimp only at h1 ⊢
 rw[Ct] at h1
 refine AB fun K7 hK7=>sr U fun K8 hK8=>zm tb 2 U (zl tb U U (zq tb U (dn hK8 U ?_)))
 refine ci h1 U ?_ ?_ <;> clear h1 <;> intro b9 h1
 ·refine AG (hK7 _ (AB fun K10 hK10=>AP (sr U fun K11 hK11=>zm tb 2 U (bs h1 fun q12 gq12 h1=>zc (hb 112) (JW gq12) rfl U U (zq tb U (dn hK11 U (sr U fun K13 hK13=>zm tb 5 U (bs h1 fun c14 gc14 h1=>?_))))))))
  refine zx DO gc14 U U U (zm tb 2 U (zl tb U U (zm tb 2 U (bs h1 fun q15 gq15 h1=>zc (hb 71) (CN gq15) rfl U U (dn hK13 U ?_)))))
  refine ci h1 U ?_ ?_ <;> clear h1 <;> intro b16 h1
  ·refine zr tb U U ?_
   obtain rfl:=Sh.AA h1
   try dsimp only[id] at h0
   obtain rfl:=Sh.AA h0
   exact AI (xr (AS (L:=[(4,(Ka i4))]) (.same U)))
  ·exact AG (hK10 _ (AF U (zm tb 3 U (AE (xi (Sh.w (i4+1)) h1 (AH U))))))
 ·exact Ao (M5 () (Sh.AA h1).symm _ (AH U))
theorem Gw {N:Nat} {p0:(List Ab)} {p1:Int} {r:(List Int)} (h0:CP N p0 p1=some r):Aa Tryz.prog 90 [(Bf p0),(i64 p1)] [] (fun v st=>v=(ls eI r)∧st=[]):=by
 unfold CP at h0
 refine ai Tryz.func90 U U U U (zr tb U U (sr U fun K2 hK2=>zm tb 2 U (bs h0 fun q3 gq3 h0=>zc (hb 88) (Jp gq3) rfl U U (zq tb U (dn hK2 U (AB fun K4 hK4=>zr tb U U ?_))))))
 refine ci h0 U ?_ ?_ <;> clear h0 <;> intro b6 h0
 ·refine sr U fun K7 hK7=>?_
  refine Bu (m:=0) (l:=([]:List Int)) (enc:=eI) Ac BJ (by decide) rfl U U U U U ?_
  refine zq tb U (dn hK7 U ?_)
  obtain rfl:=Sh.AA h0
  exact AI (Exists.intro ⟨27,AL [(4,VC)],[]⟩ (And.intro (by refine Wk.trans (Wk.DN (L:=[(4,VC)]) (st':=WK) (id:=0) rfl (show 0≤0 by decide) (AJ fun _=>U) ⟨(.DN U),trivial⟩ U) ?_;exact AU [] U (by decide) rfl U .nil (.same U)) (And.intro U U)))
 ·refine AG (hK4 _ (AB fun K8 hK8=>?_))
  refine Bk (by kernel_rfl) (by kernel_rfl) (by rfl) ?_
  iterate 3 refine yq tb rfl ?_
  refine bs h0 fun c9 gc9 h0=>yx DO gc9 U U U ?_
  iterate 6 refine yq tb rfl ?_
  refine bs h0 fun q10 gq10 h0=>Bh (v:=(i64 q10)) Ac (hb 112) (JW gq10) rfl U U (yq tb U (bs h0 fun c11 gc11 h0=>yx Io gc11 U U U ?_))
  iterate 3 refine yq tb rfl ?_
  refine BL (hK8 _ ?_)
  obtain rfl:=Sh.AA h0
  exact AI (xr (AS (L:=[(4,(ls eI c11.fields))]) (.same U)))
theorem Kx {N:Nat} {rec_spec_typeOf:AN→(List Int)→AD→Option (Int)} (hrec_spec_typeOf :∀{p0:AN} {p1:(List Int)} {p2:AD} {r:Int},rec_spec_typeOf p0 p1 p2=some r→Aa Tryz.prog 46 (UY p0 p1 p2) [] (fun v st=>v=(i64 r)∧st=[])) {p0:AN} {p1:(List Int)} {p2:(List AD)} {p3:(List Int)} {r:Bool} (h0:He N rec_spec_typeOf p0 p1 p2 p3=some r):Aa Tryz.prog 89 [(HH p0),(ls eI p1),(EY p2),(ls eI p3)] [] (fun v st=>v=(.bool r)∧st=[]):=by
 unfold He at h0
 refine ai Tryz.func89 U U U U (sr U fun K1 hK1=>A7 (m:=0) Ac U U U U U (zq tb U (dn hK1 U (AB fun K2 hK2=>sr U fun K3 hK3=>zq tb U (zl tb U U (zq tb U (zl tb U U (zq tb U ?_))))))))
 refine dn hK3 U ?_
 refine ci h0 U ?_ ?_ <;> clear h0 <;> intro b4 h0
 ·have b5:decide ((Sh.len p2)=(Sh.len p3))=false:=by simpa using b4
  refine zr tb U U ?_
  obtain rfl:=Sh.AA h0
  exact AI (xr (Ai [(8,(.bool false))] U))
 ·have b7:decide ((Sh.len p2)=(Sh.len p3))=true:=by simpa using b4
  refine AG (hK2 _ (AB fun K8 hK8=>zr tb U U ?_))
  obtain⟨o11,h1,h0⟩:=Sh.A8 h0
  have M11 :∀(_:Unit),o11=Sum.inr ()→∀s,Wk 0 s ⟨33,AL [],[]⟩→K8 s:=by
   intro _ hq s hw
   subst o11
   try dsimp only at h0
   refine hK8 _ (AM hw (zr tb U U ?_))
   obtain rfl:=Sh.AA h0
   exact AI (xr (AS (L:=[(8,(.bool true))]) (.same U)))
  refine AP (Ak (σ:=Int) (fun n v=>FR p0 p1 p2 p3 rec_spec_typeOf n v=some o11) (fun i10=>⟨33,AL [(1,(ls eI p1)),(2,(ls A4 p2)),(3,(ls eI p3)),(4,(.ptr 0 0 0 0)),(9,(i64 i10))],[(Jc p0.decls p0.funcs)]⟩) N 0 h1 (AH U) (fun _ hv=>by rw[FR] at hv;cases hv) ?_)
  rintro n i10 h1
  try dsimp only at h1 ⊢
  rw[FR] at h1
  refine AB fun K13 hK13=>sr U fun K14 hK14=>zm tb 2 U (zl tb U U (zq tb U (dn hK14 U ?_)))
  refine ci h1 U ?_ ?_ <;> clear h1 <;> intro b15 h1
  ·refine AG (hK13 _ (AB fun K16 hK16=>AP (AB fun K17 hK17=>?_)))
   refine Bk (by kernel_rfl) (by kernel_rfl) (by rfl) ?_
   iterate 4 refine yq tb rfl ?_
   refine bs h1 fun c18 gc18 h1=>yz (Ff c18) (BY Bw U U gc18 (Aw _) rfl) rfl (yq tb U (bs h1 fun q19 gq19 h1=>Bh (v:=(i64 q19)) Ac (hb 46) (hrec_spec_typeOf gq19) rfl U U ?_))
   iterate 2 refine yq tb rfl ?_
   refine bs h1 fun c20 gc20 h1=>yx BJ gc20 U U U ?_
   iterate 2 refine yq tb rfl ?_
   refine BL (hK17 _ ?_)
   refine ci h1 U ?_ ?_ <;> clear h1 <;> intro b21 h1
   ·have b22:decide (q19=c20)=false:=by simpa using b21
    refine zr tb U U ?_
    obtain rfl:=Sh.AA h1
    try dsimp only[id] at h0
    obtain rfl:=Sh.AA h0
    exact AI (xr (Ai [(8,(.bool false))] U))
   ·have b24:decide (q19=c20)=true:=by simpa using b21
    exact AG (hK16 _ (AF U (zm tb 3 U (AE (xi (Sh.w (i10+1)) h1 (AH U))))))
  ·exact Ao (M11 () (Sh.AA h1).symm _ (Ai _ U))
theorem I2 {p0:(List Int)} {r:(List Int)} (h0:Dk p0=some r):Aa Tryz.prog 49 [(ls eI p0)] [] (fun v st=>v=(ow 0 0 r)∧st=[(BB r)]):=by
 unfold Dk at h0
 refine ai Tryz.func49 U U U U (zr tb U U (sr U fun K2 hK2=>?_))
 refine Bu (m:=0) (l:=([]:List Int)) (enc:=eI) Ac BJ (by decide) rfl U U U U U ?_
 refine zq tb U (bs h0 fun l3 gl3 h0=>FA (l2:=p0) Ac BJ U U U U Nw (fun _=>U) gl3 U (zq tb U (dn hK2 U ?_)))
 obtain rfl:=Sh.AA h0
 exact AI (xr (Cy (L:=[(2,(ow 0 0 l3))]) (st':=[(BB l3)]) (.pure (AJ fun _=>U) .nil) (.same U)))
theorem KN {p0:(List Int)} {p1:(List Int)} {r:(List Int)} (h0:GQ p0 p1=some r):Aa Tryz.prog 91 [(ls eI p0),(ls eI p1)] [] (fun v st=>v=(ow 0 0 r)∧st=[(BB r)]):=by
 unfold GQ at h0
 refine ai Tryz.func91 U U U U (zr tb U U (sr U fun K2 hK2=>zq tb U (bs h0 fun q3 gq3 h0=>BF (v':=(ow 0 0 q3)) Ac (hb 49) (I2 gq3) rfl U ⟨(BZ fun _=>U),trivial⟩ U U (zq tb U (bs h0 fun l4 gl4 h0=>FA (l2:=p1) Ac BJ U U U U Nw (fun _=>U) gl4 U (zq tb U (dn hK2 U ?_)))))))
 obtain rfl:=Sh.AA h0
 exact AI (xr (Cy (L:=[(4,(ow 0 0 l4))]) (st':=[(BB l4)]) (.pure (AJ fun _=>U) .nil) (.same U)))
theorem NM {N:Nat} {p0:(List Ab)} {p1:Int} {r:(List Int)} (h0:Ho N p0 p1=some r):Aa Tryz.prog 110 [(Bf p0),(i64 p1)] [] (fun v st=>v=(ow 0 0 r)∧st=[(BB r)]):=by
 unfold Ho at h0
 refine ai Tryz.func110 U U U U (zr tb U U (sr U fun K2 hK2=>?_))
 refine Bu (m:=0) (l:=([]:List Int)) (enc:=eI) Ac BJ (by decide) rfl U U U U U ?_
 refine zq tb U (dn hK2 U (AB fun K3 hK3=>sr U fun K4 hK4=>zm tb 2 U (zl tb U U (bs h0 fun q5 gq5 h0=>zc (hb 71) (CN gq5) rfl U U (zq tb U (dn hK4 U ?_))))))
 refine ci h0 U ?_ ?_ <;> clear h0 <;> intro b6 h0
 ·have b7:q5=false:=by simpa using b6
  refine zr tb U U ?_
  obtain rfl:=Sh.AA h0
  exact AI (xr (AS (L:=[(4,Us)]) (.same U)))
 ·have b9:q5=true:=by simpa using b6
  refine AG (hK3 _ (AB fun K10 hK10=>zr tb U U (bs h0 fun o15 h1 h0=>?_)))
  have M15 :∀(l14:(List Int)),o15=l14→∀s,Wk 0 s ⟨35,AL [(5,(ow 0 0 l14))],[(BB l14)]⟩→K10 s:=by
   intro l14 hq s hw
   subst o15
   try dsimp only at h0
   refine hK10 _ (AM hw (zr tb U U ?_))
   obtain rfl:=Sh.AA h0
   exact AI (xr (AS (L:=[(4,(ow 0 0 l14))]) (.same U)))
  refine AP (Ak (σ:=Int×(List Int)) (fun n v=>EZ N p0 p1 n v.1 v.2=some o15) (fun (i12,l13)=>⟨35,AL [(0,(ls AT p0)),(1,(i64 p1)),(5,(ow 0 0 l13)),(6,(i64 i12))],[(ro 0 3 1 eI l13)]⟩) N (0,[]) h1 (AH U) (fun _ hv=>by rw[EZ] at hv;cases hv) ?_)
  rintro n ⟨i12,l13⟩ h1
  try dsimp only at h1 ⊢
  rw[EZ] at h1
  refine AB fun K17 hK17=>sr U fun K18 hK18=>zm tb 4 U (bs h1 fun c19 gc19 h1=>zx DO gc19 U U U (zm tb 2 U (zl tb U U (zq tb U (dn hK18 U ?_)))))
  refine ci h1 U ?_ ?_ <;> clear h1 <;> intro b20 h1
  ·refine AG (hK17 _ (AB fun K21 hK21=>AP (AF U (zm tb 4 U (bs h1 fun q22 gq22 h1=>zc (hb 112) (JW gq22) rfl U U (zm tb 2 U ?_))))))
   refine Bu (m:=1) (l:=[Sh.w (q22+i12)]) (enc:=eI) Ac BJ (by decide) rfl U U U U U ?_
   refine bs h1 fun l23 gl23 h1=>FA (l2:=[Sh.w (q22+i12)]) Ac BJ U U U U (IC U U) (fun _=>U) gl23 U (zq tb U (dn hK21 U (AF U (zm tb 3 U ?_))))
   exact AE (xi (Sh.w (i12+1),l23) h1 (by refine Wk.trans (Cy (L:=[(0,(Bf p0)),(1,(i64 p1)),(5,(ow 0 0 l23)),(6,(Ka i12))]) (st':=[(BB l23),(ro 0 3 1 eI [Sh.w (q22+i12)])]) (.pure (AJ fun _=>U) (.pure (AJ fun _=>U) .nil)) (.same U)) ?_;exact AU [0] U (by decide) rfl U (.pure (AJ fun _=>U) .nil) (.same U)))
  ·exact Ao (M15 l13 (Sh.AA h1).symm _ (AH U))
theorem P3 {N:Nat} {rec_spec_typeOf:AN→(List Int)→AD→Option (Int)} (hrec_spec_typeOf :∀{p0:AN} {p1:(List Int)} {p2:AD} {r:Int},rec_spec_typeOf p0 p1 p2=some r→Aa Tryz.prog 46 (UY p0 p1 p2) [] (fun v st=>v=(i64 r)∧st=[])) {p0:AN} {p1:(List Int)} {p2:AD} {r:Int} (h0:IY N rec_spec_typeOf p0 p1 p2=some r):Aa Tryz.prog 92 (UY p0 p1 p2) [] (fun v st=>v=(i64 r)∧st=[]):=by
 unfold IY at h0
 refine ai Tryz.func92 U U U U (sr U fun K1 hK1=>A7 (m:=0) Ac U U U U U (A7 (m:=1) Ac U U U U U (zq tb U (dn hK1 U (sr U fun K2 hK2=>zm tb 4 U (bs h0 fun q3 gq3 h0=>BF (v':=(ow 2 0 q3)) Ac (hb 110) (NM gq3) rfl U ⟨(BZ fun _=>U),trivial⟩ U U (zq tb U (dn hK2 U ?_))))))))
 refine AB fun K4 hK4=>AB fun K5 hK5=>bs h0 fun o7 h1 h0=>?_
 have M7 :∀(t6:Bool),o7=t6→∀s,Wk 0 s ⟨79,AL [(1,(ls eI p1)),(3,Am),(5,Aq),(7,(ow 2 0 q3)),(38,(.bool t6))],[(Jc p0.decls p0.funcs),(Ml p2.op p2.num p2.kids),(BB q3)]⟩→K5 s:=by
  intro t6 hq s hw
  subst o7
  try dsimp only at h0
  refine hK5 _ (AM hw ?_)
  refine ci h0 U ?_ ?_ <;> clear h0 <;> intro b8 h0
  ·refine zr tb U U ?_
   obtain rfl:=Sh.AA h0
   exact AI (xr (Ai [(6,(i64 (-1)))] U))
  ·refine AG (hK4 _ (AB fun K10 hK10=>?_))
   refine Bi 14 (by kernel_rfl) (by kernel_rfl) (by rfl) ?_
   iterate 5 refine yq tb rfl ?_
   refine bs h0 fun c11 gc11 h0=>yz (.ptr 2 0 (Int.toNat 0) 0) (Bb BJ U U U U gc11) rfl (yz (i64 c11) (CZ Ja U U (GZ gc11) rfl) rfl (bs h0 fun q12 gq12 h0=>Bh (v:=(ls eI q12)) Ac (hb 90) (Gw gq12) rfl U U (bs h0 fun q13 gq13 h0=>?_)))
   refine Bh (v:=(ls eI q13)) Ac (hb 91) (Aa.wk (KN gq13) (by refine Wk.trans (Wk.DN (L:=[(0,(ls eI q13))]) (st':=WK) (id:=0) rfl (show 0≤0 by decide) (AJ fun _=>U) ⟨(.DN U),trivial⟩ U) ?_;exact AU [] U (by decide) rfl U .nil (.same U))) rfl U U ?_
   iterate 2 refine yq tb rfl ?_
   refine bs h0 fun c14 gc14 h0=>yz (Ff c14) (BY Bw U U gc14 (Aw _) rfl) rfl (yq tb U (bs h0 fun q15 gq15 h0=>Bh (v:=(i64 q15)) Ac (hb 46) (hrec_spec_typeOf gq15) rfl U U (BL (zq tb U (dn hK10 U (AB fun K16 hK16=>zr tb U U ?_))))))
   obtain⟨o19,h1,h0⟩:=Sh.A8 h0
   have M19 :∀(_:Unit),o19=Sum.inr ()→∀s,Wk 0 s ⟨79,AL [(8,(i64 q15))],[]⟩→K16 s:=by
    intro _ hq s hw
    subst o19
    try dsimp only at h0
    refine hK16 _ (AM hw (zr tb U U ?_))
    obtain rfl:=Sh.AA h0
    exact AI (xr (AS (L:=[(6,(i64 q15))]) (.same U)))
   refine AP (Ak (σ:=Int) (fun n v=>DD N p0 p1 p2 q15 q3 rec_spec_typeOf n v=some o19) (fun i18=>⟨79,AL [(1,(ls eI p1)),(3,(.ptr 0 0 0 0)),(5,(.ptr 1 0 0 0)),(7,(ow 2 0 q3)),(8,(i64 q15)),(9,(i64 i18))],[(Jc p0.decls p0.funcs),(Ml p2.op p2.num p2.kids),(ro 0 3 1 eI q3)]⟩) N 1 h1 (AH U) (fun _ hv=>by rw[DD] at hv;cases hv) ?_)
   rintro n i18 h1
   try dsimp only at h1 ⊢
   rw[DD] at h1
   refine AB fun K21 hK21=>sr U fun K22 hK22=>zm tb 2 U (zz (B0 q3) (Cw Fp U U U) rfl (zq tb U (dn hK22 U ?_)))
   refine ci h1 U ?_ ?_ <;> clear h1 <;> intro b23 h1
   ·refine AG (hK21 _ (AB fun K24 hK24=>AP (AB fun K25 hK25=>?_)))
    refine Bi 18 (by kernel_rfl) (by kernel_rfl) (by rfl) ?_
    iterate 6 refine yq tb rfl ?_
    refine bs h1 fun c26 gc26 h1=>yz (.ptr 2 0 (Int.toNat i18) 0) (Bb BJ U U U U gc26) rfl (yz (i64 c26) (CZ Ja U U (GZ gc26) rfl) rfl (bs h1 fun q27 gq27 h1=>Bh (v:=(ls eI q27)) Ac (hb 90) (Gw gq27) rfl U U (bs h1 fun q28 gq28 h1=>?_)))
    refine Bh (v:=(ls eI q28)) Ac (hb 91) (Aa.wk (KN gq28) (by refine Wk.trans (Wk.DN (L:=[(0,(ls eI q28))]) (st':=WK) (id:=0) rfl (show 0≤0 by decide) (AJ fun _=>U) ⟨(.DN U),trivial⟩ U) ?_;exact AU [] U (by decide) rfl U .nil (.same U))) rfl U U ?_
    iterate 4 refine yq tb rfl ?_
    refine bs h1 fun c29 gc29 h1=>yz (Ff c29) (BY Bw U U gc29 (Aw _) rfl) rfl (yq tb U (bs h1 fun q30 gq30 h1=>Bh (v:=(i64 q30)) Ac (hb 46) (hrec_spec_typeOf gq30) rfl U U (yq tb U (BL (zq tb U (dn hK25 U ?_))))))
    refine ci h1 U ?_ ?_ <;> clear h1 <;> intro b31 h1
    ·have b32:decide (q30=q15)=false:=by simpa using b31
     refine zr tb U U ?_
     obtain rfl:=Sh.AA h1
     try dsimp only[id] at h0
     obtain rfl:=Sh.AA h0
     exact AI (xr (Ai [(6,(i64 (-1)))] U))
    ·have b34:decide (q30=q15)=true:=by simpa using b31
     exact AG (hK24 _ (AF U (zm tb 3 U (AE (xi (Sh.w (i18+1)) h1 (AH U))))))
   ·exact Ao (M19 () (Sh.AA h1).symm _ (Ai _ U))
 refine Bk (by kernel_rfl) (by kernel_rfl) (by rfl) ?_
 refine yq tb U (yz (B0 q3) (Cw Fp U U U) rfl ?_)
 iterate 2 refine yq tb rfl ?_
 rcases Sh.Ap h1 with ⟨b35,h1⟩ | ⟨b35,h1⟩
 ·refine ys b35 U ?_
  iterate 6 refine ys b35 rfl ?_
  refine yt b35 U (yq tb U ?_)
  iterate 10 refine ys rfl rfl ?_
  exact yt U U (BL (M7 true (Sh.AA h1).symm _ (AH U)))
 ·refine yg tb b35 U (yg tb b35 U (Kh (v:=(Jb p2)) (DT U U b35) rfl (CK US U) (yg tb b35 U (Kh (v:=(B0 q3)) (DT U U b35) rfl (Cw Fp U U U) ?_))))
  iterate 2 refine yg tb b35 rfl ?_
  refine yf b35 U (yq tb U ?_)
  rcases Sh.Ap h1 with ⟨b36,h1⟩ | ⟨b36,h1⟩
  ·refine ys b36 U ?_
   iterate 9 refine ys b36 rfl ?_
   exact yt b36 U (BL (M7 true (Sh.AA h1).symm _ (AH U)))
  ·refine yg tb b36 U ?_
   iterate 3 refine yg tb b36 rfl ?_
   refine bs h1 fun c37 gc37 h1=>Kh (v:=(Ff c37)) (DT U U b36) rfl (BY Bw U U gc37 (Aw _) rfl) (yg tb b36 U (bs h1 fun q38 gq38 h1=>Bh (v:=(i64 q38)) (DT U U b36) (hb 46) (hrec_spec_typeOf gq38) rfl U U ?_))
   iterate 3 refine yg tb b36 rfl ?_
   exact yf b36 U (BL (M7 (!decide (q38=p2.num)) (Sh.AA h1).symm _ (AH U)))
theorem Rm {N:Nat} {p0:(List Ab)} {p1:Int} {p2:Int} {r:Int} (h0:IQ N p0 p1 p2=some r):Aa Tryz.prog 122 [(Bf p0),(i64 p1),(i64 p2)] [] (fun v st=>v=(i64 r)∧st=[]):=by
 unfold IQ at h0
 refine ai Tryz.func122 U U U U (zr tb U U (AB fun K2 hK2=>zr tb U U ?_))
 obtain⟨o5,h1,h0⟩:=Sh.A8 h0
 have M5 :∀(_:Unit),o5=Sum.inr ()→∀s,Wk 0 s ⟨41,AL [],[]⟩→K2 s:=by
  intro _ hq s hw
  subst o5
  try dsimp only at h0
  refine hK2 _ (AM hw (zr tb U U ?_))
  obtain rfl:=Sh.AA h0
  exact AI (xr (AS (L:=[(6,(i64 (-1)))]) (.same U)))
 refine AP (Ak (σ:=Int) (fun n v=>D7 p0 p1 p2 n v=some o5) (fun i4=>⟨41,AL [(0,(ls AT p0)),(1,(i64 p1)),(2,(i64 p2)),(7,(i64 i4))],[]⟩) N 0 h1 (AH U) (fun _ hv=>by rw[D7] at hv;cases hv) ?_)
 rintro n i4 h1
 try dsimp only at h1 ⊢
 rw[D7] at h1
 refine AB fun K7 hK7=>sr U fun K8 hK8=>zm tb 2 U (zl tb U U (zq tb U (dn hK8 U ?_)))
 refine ci h1 U ?_ ?_ <;> clear h1 <;> intro b9 h1
 ·refine AG (hK7 _ (AB fun K10 hK10=>AP (AB fun K11 hK11=>bs h1 fun o13 h2 h1=>?_)))
  have M13 :∀(t12:Bool),o13=t12→∀s,Wk 0 s ⟨41,AL [(0,(Bf p0)),(1,(i64 p1)),(2,(i64 p2)),(7,(i64 i4)),(38,(.bool t12))],[]⟩→K11 s:=by
   intro t12 hq s hw
   subst o13
   try dsimp only at h1
   refine hK11 _ (AM hw ?_)
   refine ci h1 U ?_ ?_ <;> clear h1 <;> intro b14 h1
   ·refine zr tb U U ?_
    obtain rfl:=Sh.AA h1
    try dsimp only[id] at h0
    obtain rfl:=Sh.AA h0
    exact AI (xr (AS (L:=[(6,(Ka i4))]) (.same U)))
   ·exact AG (hK10 _ (AF U (zm tb 3 U (AE (xi (Sh.w (i4+1)) h1 (AH U))))))
  refine AF U (zm tb 2 U (bs h2 fun c16 gc16 h2=>zx DO gc16 U U U (zm tb 2 U (zl tb U U (zm tb 2 U ?_)))))
  rcases Sh.Ap h2 with ⟨b17,h2⟩ | ⟨b17,h2⟩
  ·refine zg tb b17 U (zg tb b17 U (BH (v:=(.Bd (AT c16) 0)) (DT U U b17) rfl (FC DO U U gc16 U) ?_))
   iterate 4 refine zg tb b17 rfl ?_
   refine zt b17 U (zq tb U ?_)
   rcases Sh.Ap h2 with ⟨b18,h2⟩ | ⟨b18,h2⟩
   ·refine zg tb b18 U (zg tb b18 U (BH (v:=(.Bd (AT c16) 0)) (DT U U b18) rfl (FC DO U U gc16 U) ?_))
    iterate 4 refine zg tb b18 rfl ?_
    exact zt b18 U (AE (M13 (decide (c16.to=p2)) (Sh.AA h2).symm _ (AH U)))
   ·refine zs b18 U ?_
    iterate 6 refine zs b18 rfl ?_
    exact zf b18 U (AE (M13 false (Sh.AA h2).symm _ (AH U)))
  ·refine zs b17 U ?_
   iterate 6 refine zs b17 rfl ?_
   refine zf b17 U (zq tb U ?_)
   iterate 7 refine zs rfl rfl ?_
   exact zf U U (AE (M13 false (Sh.AA h2).symm _ (AH U)))
 ·exact Ao (M5 () (Sh.AA h1).symm _ (AH U))
theorem QL {N:Nat} {rec_spec_typeOf:AN→(List Int)→AD→Option (Int)} (hrec_spec_typeOf :∀{p0:AN} {p1:(List Int)} {p2:AD} {r:Int},rec_spec_typeOf p0 p1 p2=some r→Aa Tryz.prog 46 (UY p0 p1 p2) [] (fun v st=>v=(i64 r)∧st=[])) {p0:AN} {p1:(List Int)} {p2:AD} {r:Int} (h0:EK N rec_spec_typeOf p0 p1 p2=some r):Aa Tryz.prog 93 (UY p0 p1 p2) [] (fun v st=>v=(i64 r)∧st=[]):=by
 unfold EK at h0
 refine ai Tryz.func93 U U U U (sr U fun K1 hK1=>A7 (m:=0) Ac U U U U U (A7 (m:=1) Ac U U U U U (zq tb U (dn hK1 U (AB fun K2 hK2=>sr U fun K3 hK3=>zm tb 4 U (zl tb U U (zq tb U (bs h0 fun q4 gq4 h0=>?_))))))))
 refine zc (hb 71) (CN gq4) rfl U U (zq tb U (dn hK3 U ?_))
 refine ci h0 U ?_ ?_ <;> clear h0 <;> intro b5 h0
 ·have b6:q4=false:=by simpa using b5
  refine zr tb U U ?_
  obtain rfl:=Sh.AA h0
  exact AI (xr (Ai [(6,(i64 (-1)))] U))
 ·have b8:q4=true:=by simpa using b5
  refine AG (hK2 _ (sr U fun K9 hK9=>zm tb 4 U (bs h0 fun c10 gc10 h0=>zx B3 gc10 U U U (zq tb U (As (m:=2) Ac N5 U U (Ay Ac QZ U U U U U U (show 0+5≤5 by decide) rfl (dn hK9 U (sr U fun K11 hK11=>zm tb 2 U (zl tb U U ?_)))))))))
  refine zq tb U (dn hK11 U (AB fun K12 hK12=>zr tb U U ?_))
  refine ci h0 U ?_ ?_ <;> clear h0 <;> intro b14 h0
  ·refine AB fun K15 hK15=>sr U fun K16 hK16=>zm tb 6 U (bs h0 fun q17 gq17 h0=>zc (hb 89) (Kx hrec_spec_typeOf gq17) rfl U U (zq tb U (dn hK16 U ?_)))
   refine ci h0 U ?_ ?_ <;> clear h0 <;> intro b18 h0
   ·have b19:q17=false:=by simpa using b18
    refine zr tb U U ?_
    obtain rfl:=Sh.AA h0
    exact AI (xr (Ai [(6,(i64 (-1)))] U))
   ·have b21:q17=true:=by simpa using b18
    refine AG (hK15 _ (zr tb U U ?_))
    obtain rfl:=Sh.AA h0
    exact AI (xr (Ai [(6,(i64 c10.result))] U))
  ·refine AG (hK12 _ (AB fun K23 hK23=>AB fun K24 hK24=>bs h0 fun o26 h1 h0=>?_))
   have M26 :∀(t25:Bool),o26=t25→∀s,Wk 0 s ⟨65,AL [(3,Am),(7,Aq),(8,(i64 (Sh.len c10.params))),(53,(.bool t25))],[(Jc p0.decls p0.funcs),⟨0,48,5,[(T6 c10)]⟩]⟩→K24 s:=by
    intro t25 hq s hw
    subst o26
    try dsimp only at h0
    refine hK24 _ (AM hw ?_)
    refine ci h0 U ?_ ?_ <;> clear h0 <;> intro b27 h0
    ·refine zr tb U U ?_
     obtain rfl:=Sh.AA h0
     exact AI (xr (Ai [(6,(i64 (-1)))] U))
    ·refine AG (hK23 _ (AB fun K29 hK29=>?_))
     refine Bk (by kernel_rfl) (by kernel_rfl) (by rfl) ?_
     iterate 6 refine yq tb rfl ?_
     refine bs h0 fun c30 gc30 h0=>yx BJ gc30 U U U ?_
     iterate 3 refine yq tb rfl ?_
     refine bs h0 fun q31 gq31 h0=>Bh (v:=(i64 q31)) Ac (hb 122) (Rm gq31) rfl U U (yq tb U (BL (hK29 _ ?_)))
     obtain rfl:=Sh.AA h0
     exact AI (xr (Ai [(6,(i64 q31))] U))
   refine Bi 14 (by kernel_rfl) (by kernel_rfl) (by rfl) ?_
   iterate 3 refine yq tb rfl ?_
   rcases Sh.Ap h1 with ⟨b32,h1⟩ | ⟨b32,h1⟩
   ·refine ys b32 U ?_
    iterate 10 refine ys b32 rfl ?_
    refine BL (zt b32 U ?_)
    exact AE (M26 true (Sh.AA h1).symm _ (AU [0,2] U (by decide) rfl U (.raw U U (.raw U U .nil)) (.same U)))
   ·refine yg tb b32 U ?_
    iterate 7 refine yg tb b32 rfl ?_
    refine bs h1 fun l33 gl33 h1=>Yg (i:=0) (j:=Sh.w ((Sh.len c10.params) - 1)) (DT U U b32) BJ U U U (fun _=>U) gl33 (bs h1 fun q34 gq34 h1=>Bh (v:=(.bool q34)) (DT U U b32) (hb 89) (Kx hrec_spec_typeOf gq34) rfl U U (yg tb b32 U (BL (zf b32 U ?_))))
    exact AE (M26 (!q34) (Sh.AA h1).symm _ (AU [0,2] U (by decide) rfl U (.raw U U (.raw U U .nil)) (.same U)))
theorem R8 {p0:(List Ab)} {p1:Int} {r:Bool} (h0:IB p0 p1=some r):Aa Tryz.prog 94 [(Bf p0),(i64 p1)] [] (fun v st=>v=(.bool r)∧st=[]):=by
 unfold IB at h0
 refine ai Tryz.func94 U U U U (zr tb U U (AB fun K2 hK2=>bs h0 fun o4 h1 h0=>?_))
 have M4 :∀(t3:Bool),o4=t3→∀s,Wk 0 s ⟨19,AL [(4,(.bool t3))],[]⟩→K2 s:=by
  intro t3 hq s hw
  subst o4
  try dsimp only at h0
  refine hK2 _ (AM hw ?_)
  obtain rfl:=Sh.AA h0
  exact AI (xr (AS (L:=[(4,(.bool t3))]) (.same U)))
 refine AF U (zm tb 2 U (zl tb U U (bs h1 fun q5 gq5 h1=>zc (hb 71) (CN gq5) rfl U U (zq tb U ?_))))
 rcases Sh.Ap h1 with ⟨b6,h1⟩ | ⟨b6,h1⟩
 ·exact zg tb b6 U (zg tb b6 U (zg tb b6 U (bs h1 fun c7 gc7 h1=>BH (v:=(.Bd (AT c7) 0)) (DT U U b6) rfl (FC DO U U gc7 U) (zg tb b6 U (zg tb b6 U (BH (v:=(XJ c7)) (DT U U b6) rfl (CK O6 U) (zg tb b6 U (zt b6 U (zq tb U (AE (M4 (decide ((Sh.len c7.cons)=0)) (Sh.AA h1).symm _ (AH U))))))))))))
 ·refine zs b6 U ?_
  iterate 7 refine zs b6 rfl ?_
  exact zf b6 U (zq tb U (AE (M4 false (Sh.AA h1).symm _ (AH U))))
theorem QH {N:Nat} {rec_spec_typeOf:AN→(List Int)→AD→Option (Int)} (hrec_spec_typeOf :∀{p0:AN} {p1:(List Int)} {p2:AD} {r:Int},rec_spec_typeOf p0 p1 p2=some r→Aa Tryz.prog 46 (UY p0 p1 p2) [] (fun v st=>v=(i64 r)∧st=[])) {p0:AN} {p1:(List Int)} {p2:AD} {r:Int} (h0:BK N rec_spec_typeOf p0 p1 p2=some r):Aa Tryz.prog 46 (UY p0 p1 p2) [] (fun v st=>v=(i64 r)∧st=[]):=by
 unfold BK at h0
 refine ai Tryz.func46 U U U U (sr U fun K1 hK1=>A7 (m:=0) Ac U U U U U (A7 (m:=1) Ac U U U U U (zq tb U (dn hK1 U (zr tb U U (AB fun K3 hK3=>?_))))))
 obtain⟨o4,h1,h0⟩:=Sh.A8 h0
 have M4 :∀(_:Unit),o4=Sum.inr ()→∀s,Wk 0 s ⟨215,AL [],[]⟩→K3 s:=by
  intro _ hq s hw
  subst o4
  try dsimp only at h0
  refine hK3 _ (AM hw (zr tb U U ?_))
  obtain rfl:=Sh.AA h0
  exact AI (xr (AS (L:=[(6,(i64 (-1)))]) (.same U)))
 refine zr tb U U (AP (zr tb U U ?_))
 refine ci h1 U ?_ ?_ <;> clear h1 <;> intro b8 h1
 ·refine AB fun K9 hK9=>bs h1 fun o11 h2 h1=>?_
  have M11 :∀(t10:Bool),o11=t10→∀s,Wk 0 s ⟨215,AL [(26,(.bool t10))],[]⟩→K9 s:=by
   intro t10 hq s hw
   subst o11
   try dsimp only at h1
   refine hK9 _ (AM hw ?_)
   refine ci h1 U ?_ ?_ <;> clear h1 <;> intro b12 h1
   ·refine zr tb U U ?_
    obtain rfl:=Sh.AA h1
    try dsimp only[id] at h0
    obtain rfl:=Sh.AA h0
    exact AI (xr (AS (L:=[(6,(i64 0))]) (.same U)))
   ·exact AG (M4 () (Sh.AA h1).symm _ (AH U))
  refine AF U (zm tb 2 U (zl tb U U (zm tb 2 U ?_)))
  rcases Sh.Ap h2 with ⟨b14,h2⟩ | ⟨b14,h2⟩
  ·exact zg tb b14 U (zg tb b14 U (bs h2 fun q15 gq15 h2=>zd b14 (hb 71) (CN gq15) rfl U U U (zt b14 U (AE (M11 q15 (Sh.AA h2).symm _ (Ai _ U))))))
  ·exact zs b14 U (zs b14 U (zs b14 U (zf b14 U (AE (M11 false (Sh.AA h2).symm _ (Ai _ U))))))
 ·refine zr tb U U ?_
  refine ci h1 U ?_ ?_ <;> clear h1 <;> intro b17 h1
  ·refine AB fun K18 hK18=>bs h1 fun o20 h2 h1=>?_
   have M20 :∀(t19:Bool),o20=t19→∀s,Wk 0 s ⟨215,AL [(1,(ls eI p1)),(5,Am),(40,(.bool t19))],[(Ml p2.op p2.num p2.kids)]⟩→K18 s:=by
    intro t19 hq s hw
    subst o20
    try dsimp only at h1
    refine hK18 _ (AM hw ?_)
    refine ci h1 U ?_ ?_ <;> clear h1 <;> intro b21 h1
    ·refine sr U fun K22 hK22=>zm tb 3 U (bs h1 fun c23 gc23 h1=>zx BJ gc23 U U U (zm tb 2 U (dn hK22 U ?_)))
     obtain rfl:=Sh.AA h1
     try dsimp only[id] at h0
     obtain rfl:=Sh.AA h0
     exact AI (xr (Ai [(6,(i64 c23))] U))
    ·exact AG (M4 () (Sh.AA h1).symm _ (Ai _ U))
   refine AF U (zm tb 2 U (zl tb U U (zm tb 2 U ?_)))
   rcases Sh.Ap h2 with ⟨b24,h2⟩ | ⟨b24,h2⟩
   ·refine zg tb b24 U (zg tb b24 U (zg tb b24 U (BH (v:=(B0 p1)) (DT U U b24) rfl (CK Fp U) (zg tb b24 U (bs h2 fun q25 gq25 h2=>zd b24 (hb 71) (CN gq25) rfl U U U (zt b24 U ?_))))))
    exact AE (M20 q25 (Sh.AA h2).symm _ (AU [1] U (by decide) rfl U (.raw U U .nil) (.same U)))
   ·refine zs b24 U ?_
    iterate 5 refine zs b24 rfl ?_
    refine zf b24 U ?_
    exact AE (M20 false (Sh.AA h2).symm _ (AU [1] U (by decide) rfl U (.raw U U .nil) (.same U)))
  ·refine AB fun K26 hK26=>bs h1 fun o28 h2 h1=>?_
   have M28 :∀(t27:Bool),o28=t27→∀s,Wk 0 s ⟨215,AL [(1,(ls eI p1)),(3,Am),(5,Aq),(7,(.bool (decide (p2.num=0)))),(15,(i64 p2.op)),(46,(.bool t27))],[(Jc p0.decls p0.funcs),(Ml p2.op p2.num p2.kids)]⟩→K26 s:=by
    intro t27 hq s hw
    subst o28
    try dsimp only at h1
    refine hK26 _ (AM hw ?_)
    refine ci h1 U ?_ ?_ <;> clear h1 <;> intro b29 h1
    ·refine AB fun K30 hK30=>bs h1 fun o32 h2 h1=>?_
     have M32 :∀(t31:Bool),o32=t31→∀s,Wk 0 s ⟨215,AL [(58,(.bool t31))],[]⟩→K30 s:=by
      intro t31 hq s hw
      subst o32
      try dsimp only at h1
      refine hK30 _ (AM hw ?_)
      refine ci h1 U ?_ ?_ <;> clear h1 <;> intro b33 h1
      ·refine zr tb U U ?_
       obtain rfl:=Sh.AA h1
       try dsimp only[id] at h0
       obtain rfl:=Sh.AA h0
       exact AI (xr (AS (L:=[(6,(i64 0))]) (.same U)))
      ·exact AG (M4 () (Sh.AA h1).symm _ (AH U))
     refine AF U (zm tb 2 U ?_)
     rcases Sh.Ap h2 with ⟨b35,h2⟩ | ⟨b35,h2⟩
     ·refine zg tb b35 U ?_
      iterate 3 refine zg tb b35 rfl ?_
      exact bs h2 fun q36 gq36 h2=>zd b35 (hb 87) (MC hrec_spec_typeOf gq36) rfl U U U (zt b35 U (AE (M32 q36 (Sh.AA h2).symm _ (Ai _ U))))
     ·refine zs b35 U ?_
      iterate 4 refine zs b35 rfl ?_
      exact zf b35 U (AE (M32 false (Sh.AA h2).symm _ (Ai _ U)))
    ·refine zr tb U U ?_
     refine ci h1 U ?_ ?_ <;> clear h1 <;> intro b38 h1
     ·refine AB fun K39 hK39=>bs h1 fun o41 h2 h1=>?_
      have M41 :∀(t40:Bool),o41=t40→∀s,Wk 0 s ⟨215,AL [(68,(.bool t40))],[]⟩→K39 s:=by
       intro t40 hq s hw
       subst o41
       try dsimp only at h1
       refine hK39 _ (AM hw ?_)
       refine ci h1 U ?_ ?_ <;> clear h1 <;> intro b42 h1
       ·refine zr tb U U ?_
        obtain rfl:=Sh.AA h1
        try dsimp only[id] at h0
        obtain rfl:=Sh.AA h0
        exact AI (xr (AS (L:=[(6,(i64 0))]) (.same U)))
       ·exact AG (M4 () (Sh.AA h1).symm _ (AH U))
      refine AF U (zm tb 2 U ?_)
      rcases Sh.Ap h2 with ⟨b44,h2⟩ | ⟨b44,h2⟩
      ·refine zg tb b44 U ?_
       iterate 3 refine zg tb b44 rfl ?_
       exact bs h2 fun q45 gq45 h2=>zd b44 (hb 87) (MC hrec_spec_typeOf gq45) rfl U U U (zt b44 U (AE (M41 q45 (Sh.AA h2).symm _ (Ai _ U))))
      ·refine zs b44 U ?_
       iterate 4 refine zs b44 rfl ?_
       exact zf b44 U (AE (M41 false (Sh.AA h2).symm _ (Ai _ U)))
     ·refine zr tb U U ?_
      refine ci h1 U ?_ ?_ <;> clear h1 <;> intro b47 h1
      ·refine AB fun K48 hK48=>bs h1 fun o50 h2 h1=>?_
       have M50 :∀(t49:Bool),o50=t49→∀s,Wk 0 s ⟨215,AL [(3,Am),(5,Aq),(88,(.bool t49))],[(Jc p0.decls p0.funcs),(Ml p2.op p2.num p2.kids)]⟩→K48 s:=by
        intro t49 hq s hw
        subst o50
        try dsimp only at h1
        refine hK48 _ (AM hw ?_)
        refine ci h1 U ?_ ?_ <;> clear h1 <;> intro b51 h1
        ·refine sr U fun K52 hK52=>zm tb 4 U (bs h1 fun q53 gq53 h1=>zc (hb 88) (Jp gq53) rfl U U (zq tb U (dn hK52 U ?_)))
         obtain rfl:=Sh.AA h1
         try dsimp only[id] at h0
         obtain rfl:=Sh.AA h0
         exact AI (xr (Ai [(6,(i64 q53))] U))
        ·exact AG (M4 () (Sh.AA h1).symm _ (Ai _ U))
       refine Bi 17 (by kernel_rfl) (by kernel_rfl) (by rfl) ?_
       iterate 4 refine yq tb rfl ?_
       refine bs h2 fun q54 gq54 h2=>Bh (v:=(i64 q54)) Ac (hb 88) (Jp gq54) rfl U U ?_
       iterate 2 refine yq tb rfl ?_
       rcases Sh.Ap h2 with ⟨b55,h2⟩ | ⟨b55,h2⟩
       ·refine yg tb b55 U ?_
        iterate 7 refine yg tb b55 rfl ?_
        exact bs h2 fun q56 gq56 h2=>Bh (v:=(ls eI q56)) (DT U U b55) (hb 90) (Gw gq56) rfl U U (bs h2 fun q57 gq57 h2=>Bh (v:=(.bool q57)) (DT U U b55) (hb 89) (Kx hrec_spec_typeOf gq57) rfl U U (BL (zt b55 U (AE (M50 q57 (Sh.AA h2).symm _ (AH U))))))
       ·refine ys b55 U ?_
        iterate 9 refine ys b55 rfl ?_
        exact BL (zf b55 U (AE (M50 false (Sh.AA h2).symm _ (AH U))))
      ·refine zr tb U U ?_
       refine ci h1 U ?_ ?_ <;> clear h1 <;> intro b59 h1
       ·refine AB fun K60 hK60=>bs h1 fun o62 h2 h1=>?_
        have M62 :∀(t61:Bool),o62=t61→∀s,Wk 0 s ⟨215,AL [(1,(ls eI p1)),(3,Am),(5,Aq),(102,(.bool t61))],[(Jc p0.decls p0.funcs),(Ml p2.op p2.num p2.kids)]⟩→K60 s:=by
         intro t61 hq s hw
         subst o62
         try dsimp only at h1
         refine hK60 _ (AM hw ?_)
         refine ci h1 U ?_ ?_ <;> clear h1 <;> intro b63 h1
         ·refine AB fun K64 hK64=>?_
          refine Bk (by kernel_rfl) (by kernel_rfl) (by rfl) ?_
          iterate 4 refine yq tb rfl ?_
          refine bs h1 fun c65 gc65 h1=>yz (Ff c65) (BY Bw U U gc65 (Aw _) rfl) rfl (yq tb U (bs h1 fun q66 gq66 h1=>Bh (v:=(i64 q66)) Ac (hb 46) (hrec_spec_typeOf gq66) rfl U U (yq tb U (BL (hK64 _ (zr tb U U ?_))))))
          refine ci h1 U ?_ ?_ <;> clear h1 <;> intro b68 h1
          ·refine AB fun K69 hK69=>?_
           refine Bi 10 (by kernel_rfl) (by kernel_rfl) (by rfl) ?_
           iterate 3 refine yq tb rfl ?_
           refine Xu (l:=[q66]) (enc:=eI) Ac BJ (by decide) rfl U U U U (AJ fun _=>U) ?_
           refine bs h1 fun q70 gq70 h1=>?_
           refine Bh (v:=(ls eI q70)) Ac (hb 91) (Aa.wk (KN gq70) (by refine Wk.trans (Wk.DN (L:=[(0,(ls eI q70))]) (st':=WK) (id:=0) rfl (show 0≤0 by decide) (AJ fun _=>U) ⟨(.DN U),trivial⟩ U) ?_;exact AU [] U (by decide) rfl U .nil (.same U))) rfl U U ?_
           iterate 2 refine yq tb rfl ?_
           refine bs h1 fun c71 gc71 h1=>yz (Ff c71) (BY Bw U U gc71 (Aw _) rfl) rfl (yq tb U (bs h1 fun q72 gq72 h1=>Bh (v:=(i64 q72)) Ac (hb 46) (hrec_spec_typeOf gq72) rfl U U (BL (zq tb U (dn hK69 U ?_)))))
           obtain rfl:=Sh.AA h1
           try dsimp only[id] at h0
           obtain rfl:=Sh.AA h0
           exact AI (xr (Ai [(6,(i64 q72))] U))
          ·exact AG (M4 () (Sh.AA h1).symm _ (Ai _ U))
         ·exact AG (M4 () (Sh.AA h1).symm _ (Ai _ U))
        refine AF U (zm tb 2 U ?_)
        rcases Sh.Ap h2 with ⟨b73,h2⟩ | ⟨b73,h2⟩
        ·exact zg tb b73 U (zg tb b73 U (BH (v:=(Jb p2)) (DT U U b73) rfl (CK US U) (zg tb b73 U (zt b73 U (AE (M62 (decide ((Sh.len p2.kids)=2)) (Sh.AA h2).symm _ (AH U)))))))
        ·refine zs b73 U ?_
         iterate 3 refine zs b73 rfl ?_
         exact zf b73 U (AE (M62 false (Sh.AA h2).symm _ (AH U)))
       ·refine zr tb U U ?_
        refine ci h1 U ?_ ?_ <;> clear h1 <;> intro b75 h1
        ·refine AB fun K76 hK76=>bs h1 fun o78 h2 h1=>?_
         have M78 :∀(t77:Bool),o78=t77→∀s,Wk 0 s ⟨215,AL [(1,(ls eI p1)),(3,Am),(5,Aq),(140,(.bool t77))],[(Jc p0.decls p0.funcs),(Ml p2.op p2.num p2.kids)]⟩→K76 s:=by
          intro t77 hq s hw
          subst o78
          try dsimp only at h1
          refine hK76 _ (AM hw ?_)
          refine ci h1 U ?_ ?_ <;> clear h1 <;> intro b79 h1
          ·refine AB fun K80 hK80=>?_
           refine Bk (by kernel_rfl) (by kernel_rfl) (by rfl) ?_
           iterate 4 refine yq tb rfl ?_
           refine bs h1 fun c81 gc81 h1=>yz (Ff c81) (BY Bw U U gc81 (Aw _) rfl) rfl (yq tb U (bs h1 fun q82 gq82 h1=>Bh (v:=(i64 q82)) Ac (hb 46) (hrec_spec_typeOf gq82) rfl U U (yq tb U (BL (hK80 _ (AB fun K83 hK83=>?_))))))
           refine Bk (by kernel_rfl) (by kernel_rfl) (by rfl) ?_
           iterate 4 refine yq tb rfl ?_
           refine bs h1 fun c84 gc84 h1=>yz (Ff c84) (BY Bw U U gc84 (Aw _) rfl) rfl (yq tb U (bs h1 fun q85 gq85 h1=>Bh (v:=(i64 q85)) Ac (hb 46) (hrec_spec_typeOf gq85) rfl U U ?_))
           iterate 2 refine yq tb rfl ?_
           refine BL (hK83 _ ?_)
           refine ci h1 U ?_ ?_ <;> clear h1 <;> intro b86 h1
           ·refine zr tb U U ?_
            obtain rfl:=Sh.AA h1
            try dsimp only[id] at h0
            obtain rfl:=Sh.AA h0
            exact AI (xr (Ai [(6,(i64 q82))] U))
           ·exact AG (M4 () (Sh.AA h1).symm _ (Ai _ U))
          ·exact AG (M4 () (Sh.AA h1).symm _ (Ai _ U))
         refine Bk (by kernel_rfl) (by kernel_rfl) (by rfl) ?_
         iterate 2 refine yq tb rfl ?_
         rcases Sh.Ap h2 with ⟨b88,h2⟩ | ⟨b88,h2⟩
         ·refine yg tb b88 U (yg tb b88 U (Kh (v:=(Jb p2)) (DT U U b88) rfl (CK US U) (yg tb b88 U (yt b88 U (yq tb U ?_)))))
          rcases Sh.Ap h2 with ⟨b89,h2⟩ | ⟨b89,h2⟩
          ·refine yg tb b89 U ?_
           iterate 3 refine yg tb b89 rfl ?_
           exact bs h2 fun c90 gc90 h2=>Kh (v:=(Ff c90)) (DT U U b89) rfl (BY Bw U U gc90 (Aw _) rfl) (yg tb b89 U (bs h2 fun q91 gq91 h2=>Bh (v:=(i64 q91)) (DT U U b89) (hb 46) (hrec_spec_typeOf gq91) rfl U U (yg tb b89 U (yt b89 U (BL (M78 (decide (q91=0)) (Sh.AA h2).symm _ (AH U)))))))
          ·refine ys b89 U ?_
           iterate 7 refine ys b89 rfl ?_
           exact yf b89 U (BL (M78 false (Sh.AA h2).symm _ (AH U)))
         ·refine ys b88 U ?_
          iterate 3 refine ys b88 rfl ?_
          refine yf b88 U (yq tb U ?_)
          iterate 8 refine ys rfl rfl ?_
          exact yf U U (BL (M78 false (Sh.AA h2).symm _ (AH U)))
        ·refine zr tb U U ?_
         refine ci h1 U ?_ ?_ <;> clear h1 <;> intro b93 h1
         ·refine sr U fun K94 hK94=>zm tb 3 U (bs h1 fun q95 gq95 h1=>zc (hb 92) (P3 hrec_spec_typeOf gq95) rfl U U (zq tb U (dn hK94 U ?_)))
          obtain rfl:=Sh.AA h1
          try dsimp only[id] at h0
          obtain rfl:=Sh.AA h0
          exact AI (xr (Ai [(6,(i64 q95))] U))
         ·refine AB fun K96 hK96=>bs h1 fun o98 h2 h1=>?_
          have M98 :∀(t97:Bool),o98=t97→∀s,Wk 0 s ⟨215,AL [(1,(ls eI p1)),(3,Am),(5,Aq),(7,(.bool (decide (p2.num=0)))),(15,(i64 p2.op)),(164,(.bool t97))],[(Jc p0.decls p0.funcs),(Ml p2.op p2.num p2.kids)]⟩→K96 s:=by
           intro t97 hq s hw
           subst o98
           try dsimp only at h1
           refine hK96 _ (AM hw ?_)
           refine ci h1 U ?_ ?_ <;> clear h1 <;> intro b99 h1
           ·refine sr U fun K100 hK100=>zm tb 3 U (bs h1 fun q101 gq101 h1=>zc (hb 93) (QL hrec_spec_typeOf gq101) rfl U U (zq tb U (dn hK100 U ?_)))
            obtain rfl:=Sh.AA h1
            try dsimp only[id] at h0
            obtain rfl:=Sh.AA h0
            exact AI (xr (Ai [(6,(i64 q101))] U))
           ·refine zr tb U U ?_
            refine ci h1 U ?_ ?_ <;> clear h1 <;> intro b103 h1
            ·refine AB fun K104 hK104=>bs h1 fun o106 h2 h1=>?_
             have M106 :∀(t105:Bool),o106=t105→∀s,Wk 0 s ⟨215,AL [(1,(ls eI p1)),(3,Am),(5,Aq),(179,(.bool t105))],[(Jc p0.decls p0.funcs),(Ml p2.op p2.num p2.kids)]⟩→K104 s:=by
              intro t105 hq s hw
              subst o106
              try dsimp only at h1
              refine hK104 _ (AM hw ?_)
              refine ci h1 U ?_ ?_ <;> clear h1 <;> intro b107 h1
              ·refine AB fun K108 hK108=>?_
               refine Bk (by kernel_rfl) (by kernel_rfl) (by rfl) ?_
               iterate 4 refine yq tb rfl ?_
               refine bs h1 fun c109 gc109 h1=>yz (Ff c109) (BY Bw U U gc109 (Aw _) rfl) rfl (yq tb U (bs h1 fun q110 gq110 h1=>Bh (v:=(i64 q110)) Ac (hb 46) (hrec_spec_typeOf gq110) rfl U U (yq tb U (BL (hK108 _ (AB fun K111 hK111=>bs h1 fun o113 h2 h1=>?_))))))
               have M113 :∀(t112:Bool),o113=t112→∀s,Wk 0 s ⟨215,AL [(3,Am),(10,(i64 q110)),(207,(.bool t112))],[(Jc p0.decls p0.funcs)]⟩→K111 s:=by
                intro t112 hq s hw
                subst o113
                try dsimp only at h1
                refine hK111 _ (AM hw ?_)
                refine ci h1 U ?_ ?_ <;> clear h1 <;> intro b114 h1
                ·refine sr U fun K115 hK115=>zm tb 4 U (bs h1 fun c116 gc116 h1=>zx DO gc116 U U U (zm tb 3 U (dn hK115 U ?_)))
                 obtain rfl:=Sh.AA h1
                 try dsimp only[id] at h0
                 obtain rfl:=Sh.AA h0
                 exact AI (xr (Ai [(6,(i64 c116.to))] U))
                ·exact AG (M4 () (Sh.AA h1).symm _ (Ai _ U))
               refine Bk (by kernel_rfl) (by kernel_rfl) (by rfl) ?_
               iterate 3 refine yq tb rfl ?_
               refine bs h2 fun q117 gq117 h2=>Bh (v:=(.bool q117)) Ac (hb 94) (R8 gq117) rfl U U (yq tb U ?_)
               rcases Sh.Ap h2 with ⟨b118,h2⟩ | ⟨b118,h2⟩
               ·refine yg tb b118 U ?_
                iterate 3 refine yg tb b118 rfl ?_
                refine bs h2 fun c119 gc119 h2=>Kh (v:=(Ff c119)) (DT U U b118) rfl (BY Bw U U gc119 (Aw _) rfl) (yg tb b118 U (bs h2 fun q120 gq120 h2=>Bh (v:=(i64 q120)) (DT U U b118) (hb 46) (hrec_spec_typeOf gq120) rfl U U ?_))
                iterate 4 refine yg tb b118 rfl ?_
                refine bs h2 fun c121 gc121 h2=>Kh (v:=(.Bd (AT c121) 0)) (DT U U b118) rfl (FC DO U U gc121 U) ?_
                iterate 3 refine yg tb b118 rfl ?_
                refine yt b118 U ?_
                exact BL (M113 (decide (q120=c121.from_)) (Sh.AA h2).symm _ (AU [0] U (by decide) rfl U (.raw U U .nil) (.same U)))
               ·refine ys b118 U ?_
                iterate 14 refine ys b118 rfl ?_
                refine yf b118 U ?_
                exact BL (M113 false (Sh.AA h2).symm _ (AU [0] U (by decide) rfl U (.raw U U .nil) (.same U)))
              ·exact AG (M4 () (Sh.AA h1).symm _ (Ai _ U))
             refine AF U (zm tb 2 U ?_)
             rcases Sh.Ap h2 with ⟨b122,h2⟩ | ⟨b122,h2⟩
             ·exact zg tb b122 U (zg tb b122 U (BH (v:=(Jb p2)) (DT U U b122) rfl (CK US U) (zg tb b122 U (zt b122 U (AE (M106 (decide ((Sh.len p2.kids)=2)) (Sh.AA h2).symm _ (AH U)))))))
             ·refine zs b122 U ?_
              iterate 3 refine zs b122 rfl ?_
              exact zf b122 U (AE (M106 false (Sh.AA h2).symm _ (AH U)))
            ·exact AG (M4 () (Sh.AA h1).symm _ (Ai _ U))
          refine zr tb U U ?_
          refine ci h2 U ?_ ?_ <;> clear h2 <;> intro b124 h2
          ·exact AG (M98 true (Sh.AA h2).symm _ (AS (L:=[(1,(ls eI p1)),(3,Am),(5,Aq),(7,(.bool (decide (p2.num=0)))),(15,(i64 p2.op)),(164,(.bool true))]) ⟨.rfl,.rfl,.rfl,.rfl,.rfl,(.of (congrArg AV.bool b124)),trivial⟩))
          ·exact AF U (zm tb 2 U (AE (M98 (decide (p2.op=10)) (Sh.AA h2).symm _ (AH U))))
   refine zr tb U U ?_
   refine ci h2 U ?_ ?_ <;> clear h2 <;> intro b126 h2
   ·exact AG (M28 true (Sh.AA h2).symm _ (AS (L:=[(1,(ls eI p1)),(3,Am),(5,Aq),(7,(.bool (decide (p2.num=0)))),(15,(i64 p2.op)),(46,(.bool true))]) ⟨.rfl,.rfl,.rfl,.rfl,.rfl,(.of (congrArg AV.bool b126)),trivial⟩))
   ·refine zr tb U U ?_
    refine ci h2 U ?_ ?_ <;> clear h2 <;> intro b128 h2
    ·exact AG (M28 true (Sh.AA h2).symm _ (AS (L:=[(1,(ls eI p1)),(3,Am),(5,Aq),(7,(.bool (decide (p2.num=0)))),(15,(i64 p2.op)),(46,(.bool true))]) ⟨.rfl,.rfl,.rfl,.rfl,.rfl,(.of (congrArg AV.bool b128)),trivial⟩))
    ·refine zr tb U U ?_
     refine ci h2 U ?_ ?_ <;> clear h2 <;> intro b130 h2
     ·exact AG (M28 true (Sh.AA h2).symm _ (AS (L:=[(1,(ls eI p1)),(3,Am),(5,Aq),(7,(.bool (decide (p2.num=0)))),(15,(i64 p2.op)),(46,(.bool true))]) ⟨.rfl,.rfl,.rfl,.rfl,.rfl,(.of (congrArg AV.bool b130)),trivial⟩))
     ·exact AF U (zm tb 2 U (AE (M28 (decide (p2.op=4)) (Sh.AA h2).symm _ (AH U))))

theorem QY {N:Nat} :∀(n:Nat),∀{p0:AN} {p1:(List Int)} {p2:AD} {r:Int},Bo N n p0 p1 p2=some r→Aa Tryz.prog 46 (UY p0 p1 p2) [] (fun v st=>v=(i64 r)∧st=[]):=by
 intro n
 induction n with
 | zero=>intro p0 p1 p2 r h0;cases h0
 | succ n ih=>
  intro p0 p1 p2 r h0
  rw[Bo] at h0
  exact QH (fun h=>ih h) h0
theorem S9 {N:Nat} :∀{p0:AN} {p1:(List Int)} {p2:AD} {r:Int},JB N p0 p1 p2=some r→Aa Tryz.prog 46 (UY p0 p1 p2) [] (fun v st=>v=(i64 r)∧st=[]):=by
 intro p0 p1 p2 r h0
 exact QY N h0
theorem NT {N:Nat} {p0:AN} {r:Bool} (h0:Bc N p0=some r):Aa Tryz.prog 19 [(HH p0)] [] (fun v st=>v=(.bool r)∧st=[]):=by
 unfold Bc at h0
 refine ai Tryz.func19 U U U U (sr U fun K1 hK1=>A7 (m:=0) Ac U U U U U (zq tb U (dn hK1 U (AB fun K2 hK2=>sr U fun K3 hK3=>zq tb U (bs h0 fun q4 gq4 h0=>zc (hb 44) (Pa gq4) rfl U U (zq tb U (dn hK3 U ?_)))))))
 refine ci h0 U ?_ ?_ <;> clear h0 <;> intro b5 h0
 ·have b6:q4=false:=by simpa using b5
  refine zr tb U U ?_
  obtain rfl:=Sh.AA h0
  exact AI (xr (Ai [(2,(.bool false))] U))
 ·have b8:q4=true:=by simpa using b5
  refine AG (hK2 _ (AB fun K9 hK9=>zr tb U U ?_))
  obtain⟨o12,h1,h0⟩:=Sh.A8 h0
  have M12 :∀(_:Unit),o12=Sum.inr ()→∀s,Wk 0 s ⟨45,AL [],[]⟩→K9 s:=by
   intro _ hq s hw
   subst o12
   try dsimp only at h0
   refine hK9 _ (AM hw (zr tb U U ?_))
   obtain rfl:=Sh.AA h0
   exact AI (xr (AS (L:=[(2,(.bool true))]) (.same U)))
  refine AP (Ak (σ:=Int) (fun n v=>BU N p0 n v=some o12) (fun i11=>⟨45,AL [(1,(.ptr 0 0 0 0)),(3,(i64 i11))],[(Jc p0.decls p0.funcs)]⟩) N 0 h1 (AH U) (fun _ hv=>by rw[BU] at hv;cases hv) ?_)
  rintro n i11 h1
  try dsimp only at h1 ⊢
  rw[BU] at h1
  refine AB fun K14 hK14=>sr U fun K15 hK15=>zm tb 3 U (zl tb U U (zq tb U (dn hK15 U ?_)))
  refine ci h1 U ?_ ?_ <;> clear h1 <;> intro b16 h1
  ·refine AG (hK14 _ (AB fun K17 hK17=>AP (AB fun K18 hK18=>bs h1 fun o20 h2 h1=>?_)))
   have M20 :∀(t19:Bool),o20=t19→∀s,Wk 0 s ⟨45,AL [(1,Am),(3,(i64 i11)),(44,(.bool t19))],[(Jc p0.decls p0.funcs)]⟩→K18 s:=by
    intro t19 hq s hw
    subst o20
    try dsimp only at h1
    refine hK18 _ (AM hw ?_)
    refine ci h1 U ?_ ?_ <;> clear h1 <;> intro b21 h1
    ·refine zr tb U U ?_
     obtain rfl:=Sh.AA h1
     try dsimp only[id] at h0
     obtain rfl:=Sh.AA h0
     exact AI (xr (Ai [(2,(.bool false))] U))
    ·exact AG (hK17 _ (AF U (zm tb 3 U (AE (xi (Sh.w (i11+1)) h1 (AH U))))))
   refine Bk (by kernel_rfl) (by kernel_rfl) (by rfl) ?_
   iterate 3 refine yq tb rfl ?_
   refine bs h2 fun c23 gc23 h2=>yx B3 gc23 U U U ?_
   iterate 2 refine yq tb rfl ?_
   refine bs h2 fun q24 gq24 h2=>Bh (v:=(i64 q24)) Ac (hb 45) (L7 gq24) rfl U U ?_
   iterate 2 refine yq tb rfl ?_
   rcases Sh.Ap h2 with ⟨b25,h2⟩ | ⟨b25,h2⟩
   ·refine ys b25 U ?_
    iterate 20 refine ys b25 rfl ?_
    exact yt b25 U (BL (M20 true (Sh.AA h2).symm _ (AH U)))
   ·refine yg tb b25 U ?_
    iterate 3 refine yg tb b25 rfl ?_
    refine Kh (v:=(.Bd (Ar c23) 0)) (DT U U b25) rfl (FC B3 U U gc23 U) ?_
    iterate 5 refine yg tb b25 rfl ?_
    refine Kh (v:=(.Bd (Ar c23) 0)) (DT U U b25) rfl (FC B3 U U gc23 U) ?_
    iterate 2 refine yg tb b25 rfl ?_
    refine bs h2 fun q26 gq26 h2=>Bh (v:=(i64 q26)) (DT U U b25) (hb 46) (S9 gq26) rfl U U ?_
    iterate 3 refine yg tb b25 rfl ?_
    refine Kh (v:=(.Bd (Ar c23) 0)) (DT U U b25) rfl (FC B3 U U gc23 U) ?_
    iterate 3 refine yg tb b25 rfl ?_
    exact yf b25 U (BL (M20 (!decide (q26=c23.result)) (Sh.AA h2).symm _ (AH U)))
  ·exact Ao (M12 () (Sh.AA h1).symm _ (Ai _ U))
theorem NN {N:Nat} {p0:(List Int)} {p1:Int} {r:(List Int)} (h0:GG N p0 p1=some r):Aa Tryz.prog 114 [(ls eI p0),(i64 p1)] [] (fun v st=>v=(ow 0 0 r)∧st=[(BB r)]):=by
 unfold GG at h0
 refine ai Tryz.func114 U U U U (zr tb U U (sr U fun K2 hK2=>?_))
 refine Bu (m:=0) (l:=([]:List Int)) (enc:=eI) Ac BJ (by decide) rfl U U U U U ?_
 refine zq tb U (dn hK2 U (zr tb U U (AB fun K4 hK4=>zr tb U U (bs h0 fun o11 h1 h0=>?_))))
 have M11 :∀(done9:Bool) (l10:(List Int)),o11=(done9,l10)→∀s,Wk 0 s ⟨49,AL [(1,(i64 p1)),(5,(ow 0 0 l10)),(6,(.bool done9))],[(BB l10)]⟩→K4 s:=by
  intro done9 l10 hq s hw
  subst o11
  try dsimp only at h0
  refine hK4 _ (AM hw (AB fun K12 hK12=>bs h0 fun o14 h1 h0=>?_))
  have M14 :∀(l13:(List Int)),o14=l13→∀s,Wk 0 s ⟨49,AL [(5,(ow 0 0 l13))],[(BB l13)]⟩→K12 s:=by
   intro l13 hq s hw
   subst o14
   try dsimp only at h0
   refine hK12 _ (AM hw (zr tb U U ?_))
   obtain rfl:=Sh.AA h0
   exact AI (xr (AS (L:=[(4,(ow 0 0 l13))]) (.same U)))
  refine zr tb U U ?_
  refine ci h1 U ?_ ?_ <;> clear h1 <;> intro b17 h1
  ·have b18:done9=false:=by simpa using b17
   refine AF U (zm tb 2 U ?_)
   refine Bu (m:=1) (l:=[p1]) (enc:=eI) Ac BJ (by decide) rfl U U U U U ?_
   refine bs h1 fun l19 gl19 h1=>FA (l2:=[p1]) Ac BJ U U U U (IC U U) (fun _=>U) gl19 U (zq tb U ?_)
   exact AE (M14 l19 (Sh.AA h1).symm _ (by refine Wk.trans (Cy (L:=[(5,(ow 0 0 l19))]) (st':=[(BB l19),(QD p1)]) (.pure (AJ fun _=>U) (.pure (AJ fun _=>U) .nil)) (.same U)) ?_;exact AU [0] U (by decide) rfl U (.pure (AJ fun _=>U) .nil) (.same U)))
  ·have b20:done9=true:=by simpa using b17
   exact AG (M14 l10 (Sh.AA h1).symm _ (AH U))
 refine AP (Ak (σ:=Bool×Int×(List Int)) (fun n v=>CS p0 p1 n v.1 v.2.1 v.2.2=some o11) (fun (done6,i7,l8)=>⟨49,AL [(0,(ls eI p0)),(1,(i64 p1)),(5,(ow 0 0 l8)),(6,(.bool done6)),(7,(i64 i7))],[(ro 0 3 1 eI l8)]⟩) N (false,0,[]) h1 (AH U) (fun _ hv=>by rw[CS] at hv;cases hv) ?_)
 rintro n ⟨done6,i7,l8⟩ h1
 try dsimp only at h1 ⊢
 rw[CS] at h1
 refine AB fun K21 hK21=>sr U fun K22 hK22=>zm tb 2 U (zl tb U U (zq tb U (dn hK22 U ?_)))
 refine ci h1 U ?_ ?_ <;> clear h1 <;> intro b23 h1
 ·refine AG (hK21 _ (AB fun K24 hK24=>AP (AB fun K25 hK25=>bs h1 fun o28 h2 h1=>?_)))
  have M28 :∀(done26:Bool) (l27:(List Int)),o28=(done26,l27)→∀s,Wk 0 s ⟨49,AL [(0,(ls eI p0)),(1,(i64 p1)),(5,(ow 0 0 l27)),(6,(.bool done26)),(7,(i64 i7))],[(BB l27)]⟩→K25 s:=by
   intro done26 l27 hq s hw
   subst o28
   try dsimp only at h1
   refine hK25 _ (AM hw (AF U (zm tb 3 U (bs h1 fun c29 gc29 h1=>zx BJ gc29 U U U (zq tb U ?_)))))
   refine Bu (m:=1) (l:=[c29]) (enc:=eI) Ac BJ (by decide) rfl U U U U U ?_
   refine bs h1 fun l30 gl30 h1=>FA (l2:=[c29]) Ac BJ U U U U (IC U U) (fun _=>U) gl30 U (zq tb U (dn hK24 U (AF U (zm tb 3 U ?_))))
   exact AE (xi (done26,Sh.w (i7+1),l30) h1 (by refine Wk.trans (Cy (L:=[(0,(ls eI p0)),(1,(i64 p1)),(5,(ow 0 0 l30)),(6,(.bool done26)),(7,(Ka i7))]) (st':=[(BB l30),(QD c29)]) (.pure (AJ fun _=>U) (.pure (AJ fun _=>U) .nil)) (.same U)) ?_;exact AU [0] U (by decide) rfl U (.pure (AJ fun _=>U) .nil) (.same U)))
  refine AB fun K31 hK31=>bs h2 fun o33 h3 h2=>?_
  have M33 :∀(t32:Bool),o33=t32→∀s,Wk 0 s ⟨49,AL [(0,(ls eI p0)),(1,(i64 p1)),(5,(ow 0 0 l8)),(6,(.bool done6)),(7,(i64 i7)),(24,(.bool t32))],[(BB l8)]⟩→K31 s:=by
   intro t32 hq s hw
   subst o33
   try dsimp only at h2
   refine hK31 _ (AM hw ?_)
   refine ci h2 U ?_ ?_ <;> clear h2 <;> intro b34 h2
   ·refine AB fun K35 hK35=>bs h2 fun o37 h3 h2=>?_
    have M37 :∀(l36:(List Int)),o37=l36→∀s,Wk 0 s ⟨49,AL [(0,(ls eI p0)),(1,(i64 p1)),(5,(ow 0 0 l36)),(7,(i64 i7))],[(BB l36)]⟩→K35 s:=by
     intro l36 hq s hw
     subst o37
     try dsimp only at h2
     exact hK35 _ (AM hw (AF U (zq tb U (AE (M28 true l36 (Sh.AA h2).symm _ (AH U))))))
    refine sr U fun K38 hK38=>zm tb 2 U (bs h3 fun c39 gc39 h3=>zx BJ gc39 U U U (zm tb 3 U (dn hK38 U ?_)))
    refine ci h3 U ?_ ?_ <;> clear h3 <;> intro b40 h3
    ·refine AF U (zm tb 2 U ?_)
     refine Bu (m:=1) (l:=[p1]) (enc:=eI) Ac BJ (by decide) rfl U U U U U ?_
     refine bs h3 fun l41 gl41 h3=>FA (l2:=[p1]) Ac BJ U U U U (IC U U) (fun _=>U) gl41 U (zq tb U ?_)
     exact AE (M37 l41 (Sh.AA h3).symm _ (by refine Wk.trans (Cy (L:=[(0,(ls eI p0)),(1,(i64 p1)),(5,(ow 0 0 l41)),(7,(i64 i7))]) (st':=[(BB l41),(QD p1)]) (.pure (AJ fun _=>U) (.pure (AJ fun _=>U) .nil)) (.same U)) ?_;exact AU [0] U (by decide) rfl U (.pure (AJ fun _=>U) .nil) (.same U)))
    ·exact AG (M37 l8 (Sh.AA h3).symm _ (AH U))
   ·exact AG (M28 done6 l8 (Sh.AA h2).symm _ (AH U))
  refine AF U (zm tb 3 U ?_)
  rcases Sh.Ap h3 with ⟨b42,h3⟩ | ⟨b42,h3⟩
  ·refine zg tb b42 U (zg tb b42 U (bs h3 fun c43 gc43 h3=>BH (v:=(.Bd (eI c43) 0)) (DT U U b42) rfl (FC BJ U U gc43 U) ?_))
   iterate 3 refine zg tb b42 rfl ?_
   exact zt b42 U (AE (M33 (decide (p1≤c43)) (Sh.AA h3).symm _ (AH U)))
  ·refine zs b42 U ?_
   iterate 5 refine zs b42 rfl ?_
   exact zf b42 U (AE (M33 false (Sh.AA h3).symm _ (AH U)))
 ·exact Ao (M11 done6 l8 (Sh.AA h1).symm _ (AH U))
theorem Nc {N:Nat} {rec_spec_calleesIn:AD→(List Int)→Option ((List Int))} (hrec_spec_calleesIn :∀{p0:AD} {p1:(List Int)} {r:(List Int)},rec_spec_calleesIn p0 p1=some r→Aa Tryz.prog 72 [(Bt p0),(ls eI p1)] [] (fun v st=>v=(ls eI r)∧st=[])) {p0:AD} {p1:(List Int)} {r:(List Int)} (h0:Hc N rec_spec_calleesIn p0 p1=some r):Aa Tryz.prog 72 [(Bt p0),(ls eI p1)] [] (fun v st=>v=(ls eI r)∧st=[]):=by
 unfold Hc at h0
 refine ai Tryz.func72 U U U U (sr U fun K1 hK1=>A7 (m:=0) Ac U U U U U (zq tb U (dn hK1 U (AB fun K2 hK2=>bs h0 fun o4 h1 h0=>?_))))
 have M4 :∀(list3:(List Int)),o4=list3→∀s,Wk 0 s ⟨33,AL [(1,(ls eI list3)),(2,Am)],[(Ml p0.op p0.num p0.kids)]⟩→K2 s:=by
  intro list3 hq s hw
  subst o4
  try dsimp only at h0
  refine hK2 _ (AM hw (AB fun K5 hK5=>zr tb U U (bs h0 fun o10 h1 h0=>?_)))
  have M10 :∀(list9:(List Int)),o10=list9→∀s,Wk 0 s ⟨33,AL [(1,(ls eI list9))],[]⟩→K5 s:=by
   intro list9 hq s hw
   subst o10
   try dsimp only at h0
   refine hK5 _ (AM hw (zr tb U U ?_))
   obtain rfl:=Sh.AA h0
   exact AI (xr (AS (L:=[(4,(ls eI list9))]) (.same U)))
  refine AP (Ak (σ:=(List Int)×Int) (fun n v=>Ca p0 rec_spec_calleesIn n v.1 v.2=some o10) (fun (list7,i8)=>⟨33,AL [(1,(ls eI list7)),(2,(.ptr 0 0 0 0)),(5,(i64 i8))],[(Ml p0.op p0.num p0.kids)]⟩) N (list3,0) h1 (AH U) (fun _ hv=>by rw[Ca] at hv;cases hv) ?_)
  rintro n ⟨list7,i8⟩ h1
  try dsimp only at h1 ⊢
  rw[Ca] at h1
  refine AB fun K12 hK12=>sr U fun K13 hK13=>zm tb 3 U (zl tb U U (zq tb U (dn hK13 U ?_)))
  refine ci h1 U ?_ ?_ <;> clear h1 <;> intro b14 h1
  ·refine AG (hK12 _ (AB fun K15 hK15=>AP (AF U (zm tb 3 U (bs h1 fun c16 gc16 h1=>zz (Ff c16) (BY Bw U U gc16 (Aw _) rfl) rfl (zm tb 2 U (bs h1 fun q17 gq17 h1=>zc (hb 72) (hrec_spec_calleesIn gq17) rfl U U (zq tb U (dn hK15 U ?_)))))))))
   exact AF U (zm tb 3 U (AE (xi (q17,Sh.w (i8+1)) h1 (AH U))))
  ·exact Ao (M10 list7 (Sh.AA h1).symm _ (Ai _ U))
 refine AB fun K18 hK18=>bs h1 fun o20 h2 h1=>?_
 have M20 :∀(t19:Bool),o20=t19→∀s,Wk 0 s ⟨33,AL [(1,(ls eI p1)),(2,Am),(13,(.bool t19))],[(Ml p0.op p0.num p0.kids)]⟩→K18 s:=by
  intro t19 hq s hw
  subst o20
  try dsimp only at h1
  refine hK18 _ (AM hw ?_)
  refine ci h1 U ?_ ?_ <;> clear h1 <;> intro b21 h1
  ·refine AF U (zm tb 3 U (bs h1 fun q22 gq22 h1=>BF (v':=(ow 1 0 q22)) Ac (hb 114) (NN gq22) rfl U ⟨(BZ fun _=>U),trivial⟩ U U (zq tb U ?_)))
   exact AE (M4 q22 (Sh.AA h1).symm _ (by refine Wk.trans (Wk.DN (L:=[(1,(ls eI q22)),(2,Am)]) (st':=[(Ml p0.op p0.num p0.kids),⟨1,3,1,[]⟩]) (id:=1) rfl (show 0≤1 by decide) (AJ fun _=>U) ⟨(.DN U),.rfl,trivial⟩ U) ?_;exact AU [0] U (by decide) rfl U (.raw U U .nil) (.same U)))
  ·exact AG (M4 p1 (Sh.AA h1).symm _ (AH U))
 refine AF U (zm tb 4 U ?_)
 rcases Sh.Ap h2 with ⟨b23,h2⟩ | ⟨b23,h2⟩
 ·exact zs b23 U (zs b23 U (zs b23 U (zt b23 U (AE (M20 true (Sh.AA h2).symm _ (AH U))))))
 ·exact zg tb b23 U (zg tb b23 U (zg tb b23 U (zf b23 U (AE (M20 (decide (p0.op=10)) (Sh.AA h2).symm _ (AH U))))))

theorem OI {N:Nat} :∀(n:Nat),∀{p0:AD} {p1:(List Int)} {r:(List Int)},EB N n p0 p1=some r→Aa Tryz.prog 72 [(Bt p0),(ls eI p1)] [] (fun v st=>v=(ls eI r)∧st=[]):=by
 intro n
 induction n with
 | zero=>intro p0 p1 r h0;cases h0
 | succ n ih=>
  intro p0 p1 r h0
  rw[EB] at h0
  exact Nc (fun h=>ih h) h0
theorem LC {N:Nat} :∀{p0:AD} {p1:(List Int)} {r:(List Int)},G8 N p0 p1=some r→Aa Tryz.prog 72 [(Bt p0),(ls eI p1)] [] (fun v st=>v=(ls eI r)∧st=[]):=by
 intro p0 p1 r h0
 exact OI N h0
theorem PB {N:Nat} {p0:(List Int)} {p1:Int} {r:Bool} (h0:IZ N p0 p1=some r):Aa Tryz.prog 73 [(ls eI p0),(i64 p1)] [] (fun v st=>v=(.bool r)∧st=[]):=by
 unfold IZ at h0
 refine ai Tryz.func73 U U U U (zr tb U U (AB fun K2 hK2=>zr tb U U ?_))
 obtain⟨o5,h1,h0⟩:=Sh.A8 h0
 have M5 :∀(_:Unit),o5=Sum.inr ()→∀s,Wk 0 s ⟨18,AL [],[]⟩→K2 s:=by
  intro _ hq s hw
  subst o5
  try dsimp only at h0
  refine hK2 _ (AM hw (zr tb U U ?_))
  obtain rfl:=Sh.AA h0
  exact AI (xr (AS (L:=[(4,(.bool false))]) (.same U)))
 refine AP (Ak (σ:=Int) (fun n v=>FM p0 p1 n v=some o5) (fun i4=>⟨18,AL [(0,(ls eI p0)),(1,(i64 p1)),(5,(i64 i4))],[]⟩) N 0 h1 (AH U) (fun _ hv=>by rw[FM] at hv;cases hv) ?_)
 rintro n i4 h1
 try dsimp only at h1 ⊢
 rw[FM] at h1
 refine AB fun K7 hK7=>sr U fun K8 hK8=>zm tb 2 U (zl tb U U (zq tb U (dn hK8 U ?_)))
 refine ci h1 U ?_ ?_ <;> clear h1 <;> intro b9 h1
 ·refine AG (hK7 _ (AB fun K10 hK10=>AP (sr U fun K11 hK11=>zm tb 2 U (bs h1 fun c12 gc12 h1=>zx BJ gc12 U U U (zm tb 3 U (dn hK11 U ?_))))))
  refine ci h1 U ?_ ?_ <;> clear h1 <;> intro b13 h1
  ·refine zr tb U U ?_
   obtain rfl:=Sh.AA h1
   try dsimp only[id] at h0
   obtain rfl:=Sh.AA h0
   exact AI (xr (AS (L:=[(4,(.bool true))]) (.same U)))
  ·exact AG (hK10 _ (AF U (zm tb 3 U (AE (xi (Sh.w (i4+1)) h1 (AH U))))))
 ·exact Ao (M5 () (Sh.AA h1).symm _ (AH U))
theorem Ns {N:Nat} {p0:AN} {p1:Int} {r:(List Int)} (h0:GI N p0 p1=some r):Aa Tryz.prog 74 [(HH p0),(i64 p1)] [] (fun v st=>v=(ow 0 0 r)∧st=[(BB r)]):=by
 unfold GI at h0
 refine ai Tryz.func74 U U U U (sr U fun K1 hK1=>A7 (m:=0) Ac U U U U U (zq tb U (dn hK1 U (sr U fun K2 hK2=>zq tb U ?_))))
 refine Bu (m:=1) (l:=[p1]) (enc:=eI) Ac BJ (by decide) rfl U U U U U ?_
 refine zq tb U (dn hK2 U (AB fun K3 hK3=>zr tb U U (bs h0 fun o8 h1 h0=>?_)))
 have M8 :∀(l7:(List Int)),o8=l7→∀s,Wk 0 s ⟨50,AL [(5,(ow 0 0 l7))],[(BB l7)]⟩→K3 s:=by
  intro l7 hq s hw
  subst o8
  try dsimp only at h0
  refine hK3 _ (AM hw (zr tb U U ?_))
  obtain rfl:=Sh.AA h0
  exact AI (xr (AS (L:=[(4,(ow 0 0 l7))]) (.same U)))
 refine AP (Ak (σ:=Int×(List Int)) (fun n v=>Cc N p0 n v.1 v.2=some o8) (fun (round5,l6)=>⟨50,AL [(2,(.ptr 0 0 0 0)),(5,(ow 1 0 l6)),(6,(i64 round5))],[(Jc p0.decls p0.funcs),(ro 0 3 1 eI l6)]⟩) N (0,[p1]) h1 (AH U) (fun _ hv=>by rw[Cc] at hv;cases hv) ?_)
 rintro n ⟨round5,l6⟩ h1
 try dsimp only at h1 ⊢
 rw[Cc] at h1
 refine AB fun K10 hK10=>sr U fun K11 hK11=>zm tb 3 U (zl tb U U (zq tb U (dn hK11 U ?_)))
 refine ci h1 U ?_ ?_ <;> clear h1 <;> intro b12 h1
 ·refine AG (hK10 _ (AB fun K13 hK13=>AP (zr tb U U (bs h1 fun o18 h2 h1=>?_))))
  have M18 :∀(l17:(List Int)),o18=l17→∀s,Wk 0 s ⟨50,AL [(2,Am),(5,(ow 1 0 l17)),(6,(i64 round5))],[(Jc p0.decls p0.funcs),(BB l17)]⟩→K13 s:=by
   intro l17 hq s hw
   subst o18
   try dsimp only at h1
   exact hK13 _ (AM hw (AF U (zm tb 3 U (AE (xi (Sh.w (round5+1),l17) h1 (AH U))))))
  refine AP (Ak (σ:=Int×(List Int)) (fun n v=>CT N p0 n v.1 v.2=some o18) (fun (i15,l16)=>⟨50,AL [(2,(.ptr 0 0 0 0)),(5,(ow 1 0 l16)),(6,(i64 round5)),(7,(i64 i15))],[(Jc p0.decls p0.funcs),(ro 0 3 1 eI l16)]⟩) N (0,l6) h2 (AH U) (fun _ hv=>by rw[CT] at hv;cases hv) ?_)
  rintro n ⟨i15,l16⟩ h2
  try dsimp only at h2 ⊢
  rw[CT] at h2
  refine AB fun K19 hK19=>sr U fun K20 hK20=>zm tb 3 U (zl tb U U (zq tb U (dn hK20 U ?_)))
  refine ci h2 U ?_ ?_ <;> clear h2 <;> intro b21 h2
  ·refine AG (hK19 _ (AB fun K22 hK22=>bs h2 fun o24 h3 h2=>?_))
   have M24 :∀(l23:(List Int)),o24=l23→∀s,Wk 0 s ⟨50,AL [(2,Am),(5,(ow 1 0 l23)),(6,(i64 round5)),(7,(i64 i15))],[(Jc p0.decls p0.funcs),(BB l23)]⟩→K22 s:=by
    intro l23 hq s hw
    subst o24
    try dsimp only at h2
    exact hK22 _ (AM hw (AF U (zm tb 3 U (AE (xi (Sh.w (i15+1),l23) h2 (AH U))))))
   refine AP (sr U fun K25 hK25=>zm tb 2 U (bs h3 fun q26 gq26 h3=>Jv (v':=(.bool q26)) Ac (hb 73) (PB gq26) rfl (.own U U (fun _=>U) (.val U .nil)) rfl trivial U U (dn hK25 U ?_)))
   refine ci h3 U ?_ ?_ <;> clear h3 <;> intro b27 h3
   ·refine sr U fun K28 hK28=>zm tb 3 U (bs h3 fun c29 gc29 h3=>zx B3 gc29 U U U (zm tb 2 U ?_))
    refine Bu (m:=2) (l:=([]:List Int)) (enc:=eI) Ac BJ (by decide) rfl U U U U U ?_
    refine Af (Wk.DN (L:=[(2,Am),(5,(ow 1 0 l16)),(6,(i64 round5)),(7,(i64 i15)),(34,(VK c29)),(35,VC)]) (st':=[(Jc p0.decls p0.funcs),(BB l16),⟨1,3,1,[]⟩]) (id:=2) rfl (show 0≤2 by decide) (AJ fun _=>U) ⟨.rfl,.rfl,.rfl,.rfl,.rfl,(.DN U),trivial⟩ U) (bs h3 fun q30 gq30 h3=>zc (hb 72) (LC gq30) rfl U U (zq tb U (dn hK28 U (zr tb U U (Ve fun K32 hK32=>bs h3 fun o36 h4 h3=>?_)))))
    have M36 :∀(l35:(List Int)),o36=l35→∀s,Wk 0 s ⟨50,AL [(2,Am),(5,(ow 1 0 l35)),(6,(i64 round5)),(7,(i64 i15))],[(Jc p0.decls p0.funcs),(BB l35)]⟩→K32 s:=by
     intro l35 hq s hw
     subst o36
     try dsimp only at h3
     exact hK32 _ (M24 l35 (Sh.AA h3).symm _ (hw.trans (AS (L:=[(2,Am),(5,(ow 1 0 l35)),(6,(i64 round5)),(7,(i64 i15))]) (.same U))))
    refine AP (Ak (σ:=Int×(List Int)) (fun n v=>CV N q30 n v.1 v.2=some o36) (fun (k33,l34)=>⟨50,AL [(2,(.ptr 0 0 0 0)),(5,(ow 1 0 l34)),(6,(i64 round5)),(7,(i64 i15)),(8,(ls eI q30)),(9,(i64 k33))],[(Jc p0.decls p0.funcs),(ro 0 3 1 eI l34)]⟩) N (0,l16) h4 (AU [0,1] U (by decide) rfl U (.raw U U (.pure (AJ fun _=>U) .nil)) (.same U)) (fun _ hv=>by rw[CV] at hv;cases hv) ?_)
    rintro n ⟨k33,l34⟩ h4
    try dsimp only at h4 ⊢
    rw[CV] at h4
    refine AB fun K37 hK37=>sr U fun K38 hK38=>zm tb 2 U (zl tb U U (zq tb U (dn hK38 U ?_)))
    refine ci h4 U ?_ ?_ <;> clear h4 <;> intro b39 h4
    ·refine AG (hK37 _ (AB fun K40 hK40=>AP (AF U (zm tb 3 U (bs h4 fun c41 gc41 h4=>zx BJ gc41 U U U (zq tb U (Af (Wk.DN (L:=[(2,Am),(6,(i64 round5)),(7,(i64 i15)),(8,(ls eI q30)),(9,(i64 k33)),(43,(ls eI l34)),(47,(i64 c41))]) (st':=[(Jc p0.decls p0.funcs),⟨1,3,1,[]⟩]) (id:=1) rfl (show 0≤1 by decide) (AJ fun _=>U) ⟨.rfl,.rfl,.rfl,.rfl,.rfl,(.DN U),.rfl,trivial⟩ U) (bs h4 fun q42 gq42 h4=>BF (v':=(ow 2 0 q42)) Ac (hb 114) (NN gq42) rfl U ⟨(BZ fun _=>U),trivial⟩ U U (zq tb U ?_)))))))))
     refine dn hK40 U (AF U (zm tb 3 U ?_))
     exact AE (xi (Sh.w (k33+1),q42) h4 (AU [0,2] U (by decide) rfl U (.raw U U (.pure (AJ fun _=>U) .nil)) (.same U)))
    ·exact Ao (M36 l34 (Sh.AA h4).symm _ (AH U))
   ·exact AG (M24 l16 (Sh.AA h3).symm _ (AH U))
  ·exact Ao (M18 l16 (Sh.AA h2).symm _ (AH U))
 ·exact Ao (M8 l6 (Sh.AA h1).symm _ (AU [1] U (by decide) rfl U (.pure (AJ fun _=>U) .nil) (.same U)))
theorem P7 {N:Nat} {p0:AN} {p1:Int} {r:Bool} (h0:Dy N p0 p1=some r):Aa Tryz.prog 36 [(HH p0),(i64 p1)] [] (fun v st=>v=(.bool r)∧st=[]):=by
 unfold Dy at h0
 refine ai Tryz.func36 U U U U (sr U fun K1 hK1=>A7 (m:=0) Ac U U U U U (zq tb U (dn hK1 U (AB fun K2 hK2=>sr U fun K3 hK3=>zm tb 3 U (zl tb U U (zq tb U (bs h0 fun q4 gq4 h0=>zc (hb 71) (CN gq4) rfl U U ?_)))))))
 refine zq tb U (dn hK3 U ?_)
 refine ci h0 U ?_ ?_ <;> clear h0 <;> intro b5 h0
 ·have b6:q4=false:=by simpa using b5
  refine zr tb U U ?_
  obtain rfl:=Sh.AA h0
  exact AI (xr (Ai [(4,(.bool false))] U))
 ·have b8:q4=true:=by simpa using b5
  refine AG (hK2 _ (sr U fun K9 hK9=>zm tb 3 U (bs h0 fun c10 gc10 h0=>zx B3 gc10 U U U (zm tb 2 U ?_))))
  refine Bu (m:=1) (l:=([]:List Int)) (enc:=eI) Ac BJ (by decide) rfl U U U U U ?_
  refine Af (Wk.DN (L:=[(1,(i64 p1)),(2,Am),(19,(VK c10)),(20,VC)]) (st':=[(Jc p0.decls p0.funcs),⟨1,3,1,[]⟩]) (id:=1) rfl (show 0≤1 by decide) (AJ fun _=>U) ⟨.rfl,.rfl,.rfl,(.DN U),trivial⟩ U) (bs h0 fun q11 gq11 h0=>zc (hb 72) (LC gq11) rfl U U (zq tb U (dn hK9 U (AB fun K12 hK12=>zr tb U U ?_))))
  obtain⟨o15,h1,h0⟩:=Sh.A8 h0
  have M15 :∀(_:Unit),o15=Sum.inr ()→∀s,Wk 0 s ⟨36,AL [],[]⟩→K12 s:=by
   intro _ hq s hw
   subst o15
   try dsimp only at h0
   refine hK12 _ (AM hw (zr tb U U ?_))
   obtain rfl:=Sh.AA h0
   exact AI (xr (AS (L:=[(4,(.bool true))]) (.same U)))
  refine AP (Ak (σ:=Int) (fun n v=>Dq N p0 p1 q11 n v=some o15) (fun i14=>⟨36,AL [(1,(i64 p1)),(2,(.ptr 0 0 0 0)),(5,(ls eI q11)),(6,(i64 i14))],[(Jc p0.decls p0.funcs)]⟩) N 0 h1 (AU [0] U (by decide) rfl U (.raw U U .nil) (.same U)) (fun _ hv=>by rw[Dq] at hv;cases hv) ?_)
  rintro n i14 h1
  try dsimp only at h1 ⊢
  rw[Dq] at h1
  refine AB fun K17 hK17=>sr U fun K18 hK18=>zm tb 2 U (zl tb U U (zq tb U (dn hK18 U ?_)))
  refine ci h1 U ?_ ?_ <;> clear h1 <;> intro b19 h1
  ·refine AG (hK17 _ (AB fun K20 hK20=>AP (AB fun K21 hK21=>?_)))
   refine Bi 7 (by kernel_rfl) (by kernel_rfl) (by rfl) ?_
   iterate 3 refine yq tb rfl ?_
   refine bs h1 fun c22 gc22 h1=>yx BJ gc22 U U U (yq tb U (bs h1 fun q23 gq23 h1=>?_))
   refine Bh (v:=(ls eI q23)) Ac (hb 74) (Aa.wk (Ns gq23) (by refine Wk.trans (Wk.DN (L:=[(0,(ls eI q23))]) (st':=WK) (id:=0) rfl (show 0≤0 by decide) (AJ fun _=>U) ⟨(.DN U),trivial⟩ U) ?_;exact AU [] U (by decide) rfl U .nil (.same U))) rfl U U ?_
   refine yq tb U (BL (bs h1 fun q24 gq24 h1=>zc (hb 73) (PB gq24) rfl U U (dn hK21 U ?_)))
   refine ci h1 U ?_ ?_ <;> clear h1 <;> intro b25 h1
   ·refine zr tb U U ?_
    obtain rfl:=Sh.AA h1
    try dsimp only[id] at h0
    obtain rfl:=Sh.AA h0
    exact AI (xr (Ai [(4,(.bool false))] U))
   ·exact AG (hK20 _ (AF U (zm tb 3 U (AE (xi (Sh.w (i14+1)) h1 (AH U))))))
  ·exact Ao (M15 () (Sh.AA h1).symm _ (Ai _ U))
theorem Rz {N:Nat} {p0:AN} {p1:AD} {p2:Int} {p3:Int} {r:Int} (h0:IM N p0 p1 p2 p3=some r):Aa Tryz.prog 66 [(HH p0),(Bt p1),(i64 p2),(i64 p3)] [] (fun v st=>v=(i64 r)∧st=[]):=by
 unfold IM at h0
 refine ai Tryz.func66 U U U U (sr U fun K1 hK1=>A7 (m:=0) Ac U U U U U (A7 (m:=1) Ac U U U U U (zq tb U (dn hK1 U (AB fun K2 hK2=>zr tb U U ?_)))))
 refine ci h0 U ?_ ?_ <;> clear h0 <;> intro b4 h0
 ·refine zr tb U U ?_
  obtain rfl:=Sh.AA h0
  exact AI (xr (Ai [(8,(i64 p3))] U))
 ·refine AG (hK2 _ (AB fun K6 hK6=>zr tb U U ?_))
  refine ci h0 U ?_ ?_ <;> clear h0 <;> intro b8 h0
  ·refine zr tb U U ?_
   obtain rfl:=Sh.AA h0
   exact AI (xr (Ai [(8,(Ka p3))] U))
  ·refine AG (hK6 _ (AB fun K10 hK10=>zr tb U U ?_))
   refine ci h0 U ?_ ?_ <;> clear h0 <;> intro b12 h0
   ·refine AB fun K13 hK13=>?_
    refine Bi 15 (by kernel_rfl) (by kernel_rfl) (by rfl) ?_
    iterate 7 refine yq tb rfl ?_
    refine bs h0 fun q14 gq14 h0=>?_
    refine Bh (v:=(ls eI q14)) Ac (hb 110) (Aa.wk (NM gq14) (by refine Wk.trans (Wk.DN (L:=[(0,(ls eI q14))]) (st':=WK) (id:=0) rfl (show 0≤0 by decide) (AJ fun _=>U) ⟨(.DN U),trivial⟩ U) ?_;exact AU [] U (by decide) rfl U .nil (.same U))) rfl U U ?_
    iterate 2 refine yq tb rfl ?_
    refine bs h0 fun c15 gc15 h0=>yx BJ gc15 U U U (yq tb U (bs h0 fun q16 gq16 h0=>Bh (v:=(ls eI q16)) Ac (hb 90) (Gw gq16) rfl U U (yl tb U U (yq tb U (BL (zq tb U (dn hK13 U ?_)))))))
    obtain rfl:=Sh.AA h0
    exact AI (xr (Ai [(8,(i64 (Sh.w (p3+(Sh.len q16)))))] U))
   ·refine AG (hK10 _ (zr tb U U ?_))
    obtain rfl:=Sh.AA h0
    exact AI (xr (Ai [(8,(i64 p3))] U))
theorem QR {N:Nat} {rec_spec_shift:AD→Int→Int→Option (AD)} (hrec_spec_shift :∀{p0:AD} {p1:Int} {p2:Int} {r:AD},rec_spec_shift p0 p1 p2=some r→Aa Tryz.prog 76 (WW p0 p1 p2) [] (fun v st=>v=(Bt r)∧st=[])) {p0:(List AD)} {p1:Int} {p2:Int} {r:(List AD)} (h0:JG N rec_spec_shift p0 p1 p2=some r):Aa Tryz.prog 115 [(EY p0),(i64 p1),(i64 p2)] [] (fun v st=>v=(ow 0 0 r)∧st=[(Th r)]):=by
 unfold JG at h0
 refine ai Tryz.func115 U U U U (zr tb U U (sr U fun K2 hK2=>?_))
 refine Bu (m:=0) (l:=([]:List AD)) (enc:=A4) Ac Bw (by decide) rfl U (by simp only[List.map,Aw];rfl) rfl U U ?_
 refine zq tb U (dn hK2 U (AB fun K3 hK3=>zr tb U U (bs h0 fun o8 h1 h0=>?_)))
 have M8 :∀(l7:(List AD)),o8=l7→∀s,Wk 0 s ⟨27,AL [(7,(ow 0 0 l7))],[(Th l7)]⟩→K3 s:=by
  intro l7 hq s hw
  subst o8
  try dsimp only at h0
  refine hK3 _ (AM hw (zr tb U U ?_))
  obtain rfl:=Sh.AA h0
  exact AI (xr (AS (L:=[(6,(ow 0 0 l7))]) (.same U)))
 refine AP (Ak (σ:=Int×(List AD)) (fun n v=>DY p0 p1 p2 rec_spec_shift n v.1 v.2=some o8) (fun (i5,l6)=>⟨27,AL [(0,(ls A4 p0)),(1,(i64 p1)),(2,(i64 p2)),(7,(ow 0 0 l6)),(8,(i64 i5))],[(ro 0 44 3 A4 l6)]⟩) N (0,[]) h1 (AH U) (fun _ hv=>by rw[DY] at hv;cases hv) ?_)
 rintro n ⟨i5,l6⟩ h1
 try dsimp only at h1 ⊢
 rw[DY] at h1
 refine AB fun K10 hK10=>sr U fun K11 hK11=>zm tb 2 U (zl tb U U (zq tb U (dn hK11 U ?_)))
 refine ci h1 U ?_ ?_ <;> clear h1 <;> intro b12 h1
 ·refine AG (hK10 _ (AB fun K13 hK13=>AP (AF U (zm tb 3 U (bs h1 fun c14 gc14 h1=>zz (Ff c14) (BY Bw U U gc14 (Aw _) rfl) rfl (zm tb 3 U (bs h1 fun q15 gq15 h1=>zc (v':=(Bt q15)) (hb 76) (hrec_spec_shift gq15) rfl U U ?_)))))))
  refine Bu (m:=1) (l:=[q15]) (enc:=A4) Ac Bw (by decide) rfl U (by simp only[List.map,Aw];rfl) rfl U U ?_
  refine bs h1 fun l16 gl16 h1=>FA (l2:=[q15]) Ac Bw U U U U (IC U U Qz) Ip gl16 U (zq tb U (dn hK13 U (AF U (zm tb 3 U ?_))))
  exact AE (xi (Sh.w (i5+1),l16) h1 (by refine Wk.trans (Cy (L:=[(0,(EY p0)),(1,(i64 p1)),(2,(i64 p2)),(7,(ow 0 0 l16)),(8,(Ka i5))]) (st':=[(Th l16),(ro 0 44 3 A4 [q15])]) (.pure (AJ Co) (.pure (AJ Co) .nil)) (.same U)) ?_;exact AU [0] U (by decide) rfl U (.pure (AJ Co) .nil) (.same U)))
 ·exact Ao (M8 l6 (Sh.AA h1).symm _ (AH U))
theorem SC {N:Nat} {rec_spec_shift:AD→Int→Int→Option (AD)} (hrec_spec_shift :∀{p0:AD} {p1:Int} {p2:Int} {r:AD},rec_spec_shift p0 p1 p2=some r→Aa Tryz.prog 76 (WW p0 p1 p2) [] (fun v st=>v=(Bt r)∧st=[])) {p0:AD} {p1:Int} {p2:Int} {r:AD} (h0:J1 N rec_spec_shift p0 p1 p2=some r):Aa Tryz.prog 76 (WW p0 p1 p2) [] (fun v st=>v=(Bt r)∧st=[]):=by
 unfold J1 at h0
 refine EM U (ai Tryz.func76 U U U U (sr U fun K1 hK1=>A7 (m:=0) Ac U U U U U (As (m:=1) Ac Hb U U (dn hK1 U (zr tb U U (AB fun K3 hK3=>bs h0 fun o5 h1 h0=>?_))))))
 have M5 :∀(num4:Int),o5=num4→∀s,Wk 0 s ⟨30,AL [(1,(i64 p1)),(2,(i64 p2)),(3,Am),(6,Aq),(7,(i64 num4))],[(Ml p0.op p0.num p0.kids),br]⟩→K3 s:=by
  intro num4 hq s hw
  subst o5
  try dsimp only at h0
  refine hK3 _ (AM hw (AB fun K6 hK6=>?_))
  refine Bi 9 (by kernel_rfl) (by kernel_rfl) (by rfl) ?_
  iterate 7 refine yq tb rfl ?_
  refine bs h0 fun q7 gq7 h0=>?_
  refine Bh (v:=(EY q7)) Ac (hb 115) (Aa.wk (QR hrec_spec_shift gq7) (by refine Wk.trans (Wk.DN (L:=[(0,(EY q7))]) (st':=[C8]) (id:=0) rfl (show 0≤0 by decide) (AJ Co) ⟨(.DN U),trivial⟩ U) ?_;exact AU [] U (by decide) rfl U .nil (.same U))) rfl U U ?_
  refine yz (.agg [(i64 p0.op),(i64 num4),(EY q7)]) (GA Vl Vb Hb U U) rfl (BL (Ay Ac Cz U U U U U U (show 0+3≤3 by decide) rfl (dn hK6 U ?_)))
  obtain rfl:=Sh.AA h0
  exact AI (Exists.intro _ (And.intro (Wk.refl _ _) (BM (x:=.tmp 6) (off:=0) (cs:=[(i64 p0.op),(i64 num4),(EY q7)]) (vs:=[(i64 p0.op),(i64 num4),(EY q7)]) Cz U U U (show 0+3≤3 by decide) rfl _ U)))
 refine AB fun K8 hK8=>bs h1 fun o10 h2 h1=>?_
 have M10 :∀(t9:Bool),o10=t9→∀s,Wk 0 s ⟨30,AL [(1,(i64 p1)),(2,(i64 p2)),(3,Am),(6,Aq),(7,(i64 p0.num)),(17,(.bool t9))],[(Ml p0.op p0.num p0.kids),br]⟩→K8 s:=by
  intro t9 hq s hw
  subst o10
  try dsimp only at h1
  refine hK8 _ (AM hw ?_)
  refine ci h1 U ?_ ?_ <;> clear h1 <;> intro b11 h1
  ·exact AF U (zm tb 4 U (AE (M5 (Sh.w (p0.num+p2)) (Sh.AA h1).symm _ (AH U))))
  ·exact AG (M5 p0.num (Sh.AA h1).symm _ (AH U))
 refine AF U (zm tb 4 U ?_)
 rcases Sh.Ap h2 with ⟨b12,h2⟩ | ⟨b12,h2⟩
 ·exact zg tb b12 U (zg tb b12 U (zg tb b12 U (zt b12 U (AE (M10 (decide (p1≤p0.num)) (Sh.AA h2).symm _ (AH U))))))
 ·exact zs b12 U (zs b12 U (zs b12 U (zf b12 U (AE (M10 false (Sh.AA h2).symm _ (AH U))))))

theorem R6 {N:Nat} :∀(n:Nat),∀{p0:AD} {p1:Int} {p2:Int} {r:AD},Fs N n p0 p1 p2=some r→Aa Tryz.prog 76 (WW p0 p1 p2) [] (fun v st=>v=(Bt r)∧st=[]):=by
 intro n
 induction n with
 | zero=>intro p0 p1 p2 r h0;cases h0
 | succ n ih=>
  intro p0 p1 p2 r h0
  rw[Fs] at h0
  exact SC (fun h=>ih h) h0
theorem OM {N:Nat} :∀{p0:AD} {p1:Int} {p2:Int} {r:AD},KC N p0 p1 p2=some r→Aa Tryz.prog 76 (WW p0 p1 p2) [] (fun v st=>v=(Bt r)∧st=[]):=by
 intro p0 p1 p2 r h0
 exact R6 N h0
theorem U6 {N:Nat} {p0:(List AD)} {p1:AD} {p2:Int} {r:AD} (h0:LA N p0 p1 p2=some r):Aa Tryz.prog 75 [(EY p0),(Bt p1),(i64 p2)] [] (fun v st=>v=(Bt r)∧st=[]):=by
 unfold LA at h0
 refine EM U (ai Tryz.func75 U U U U (sr U fun K1 hK1=>A7 (m:=0) Ac U U U U U (As (m:=1) Ac Hb U U (dn hK1 U (sr U fun K2 hK2=>zq tb U (As (m:=2) Ac Hb U U (Ay Ac Cz U U U U U U (show 0+3≤3 by decide) rfl (dn hK2 U (AB fun K3 hK3=>?_)))))))))
 refine sr U fun K4 hK4=>zq tb U (zl tb U U (zm tb 2 U (dn hK4 U (bs h0 fun o12 h1 h0=>?_))))
 have M12 :∀(f9:Int) (f10:Int) (f11:(List AD)),o12=(f9,f10,f11)→∀s,Wk 0 s ⟨28,AL [(6,Am),(7,Aq)],[br,(Ml f9 f10 f11)]⟩→K3 s:=by
  intro f9 f10 f11 hq s hw
  subst o12
  try dsimp only at h0
  refine hK3 _ (AM hw (sr U fun K13 hK13=>zq tb U (Ay Ac Cz U U U U U U (show 0+3≤3 by decide) rfl (dn hK13 U ?_))))
  obtain rfl:=Sh.AA h0
  exact AI (Exists.intro _ (And.intro (Wk.refl _ _) (BM (x:=.tmp 6) (off:=0) (cs:=[(i64 f9),(i64 f10),(EY f11)]) (vs:=[(i64 f9),(i64 f10),(EY f11)]) Cz U U U (show 0+3≤3 by decide) rfl _ U)))
 refine AP (Ak (σ:=Int×Int×Int×(List AD)) (fun n v=>Fm N p0 p2 n v.1 v.2.1 v.2.2.1 v.2.2.2=some o12) (fun (k5,f6,f7,f8)=>⟨28,AL [(0,(ls A4 p0)),(2,(i64 p2)),(6,(.ptr 0 0 0 0)),(7,(.ptr 1 0 0 0)),(8,(i64 k5))],[br,(Ml f6 f7 f8)]⟩) N (Sh.w ((Sh.len p0) - 1),p1.op,p1.num,p1.kids) h1 (AU [1,2] U (by decide) rfl U (.raw U U (.raw U U .nil)) (.same U)) (fun _ hv=>by rw[Fm] at hv;cases hv) ?_)
 rintro n ⟨k5,f6,f7,f8⟩ h1
 try dsimp only at h1 ⊢
 rw[Fm] at h1
 refine AB fun K14 hK14=>zr tb U U ?_
 refine ci h1 U ?_ ?_ <;> clear h1 <;> intro b16 h1
 ·refine AG (hK14 _ (AB fun K17 hK17=>AP ?_))
  refine Bi 8 (by kernel_rfl) (by kernel_rfl) (by rfl) ?_
  iterate 2 refine yq tb rfl ?_
  refine bs h1 fun c18 gc18 h1=>yz (Ff c18) (BY Bw U U gc18 (Aw _) rfl) rfl ?_
  iterate 3 refine yq tb rfl ?_
  refine bs h1 fun q19 gq19 h1=>Bh (v:=(Bt q19)) Ac (hb 76) (OM gq19) rfl U U (yq tb U (BL ?_))
  refine Bu (m:=2) (l:=[q19,(AD.mk f6 f7 f8)]) (enc:=A4) Ac Bw (by decide) rfl U (by simp only[List.map,Aw];rfl) rfl U U ?_
  refine zz (.agg [(i64 13),(i64 0),(ow 2 0 [q19,(AD.mk f6 f7 f8)])]) (GA Vl Vb Hb U U) rfl (Af (Wk.DN (L:=[(0,(EY p0)),(2,(i64 p2)),(6,Am),(7,Aq),(8,(i64 k5)),(26,(.agg [(i64 13),(i64 0),(ls A4 [q19,(AD.mk f6 f7 f8)])]))]) (st':=[br,(Ml f6 f7 f8),C8]) (id:=2) rfl (show 0≤2 by decide) (AJ Co) ⟨.rfl,.rfl,.rfl,.rfl,.rfl,(.agg ⟨.rfl,.rfl,(.JA U),trivial⟩),trivial⟩ U) (Ay Ac Cz U U U U U U (show 0+3≤3 by decide) rfl (dn hK17 U (AF U (zm tb 3 U ?_)))))
  exact AE (xi (Sh.w (k5 - 1),13,0,[q19,(AD.mk f6 f7 f8)]) h1 (AU [0,1] U (by decide) rfl U (.raw U U (.raw U U .nil)) (.same U)))
 ·exact Ao (M12 f6 f7 f8 (Sh.AA h1).symm _ (AH U))
end Go.Proofs.YtpahalfiiahddaaGreat

