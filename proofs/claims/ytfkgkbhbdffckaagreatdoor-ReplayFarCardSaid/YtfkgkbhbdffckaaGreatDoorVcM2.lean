/-
  Part 2.
-/
import Derived.Test.YtfkgkbhbdffckaaGreatDoorVcM1
set_option linter.all false
set_option maxHeartbeats 8000000
set_option maxRecDepth 100000
namespace Go.Proofs.YtfkgkbhbdffckaaGreatDoor
open Go.Fw
theorem ty3:oneFact Tryz.prog 3=some (false,1):=by kernel_rfl
theorem zero3:zeroFact Tryz.prog 3=some (some (.int .i64 0)):=by kernel_rfl
theorem und3:Tryz.prog.underlying 3=some (.int .i64):=by kernel_rfl
theorem ty4:oneFact Tryz.prog 4=some (false,1):=by kernel_rfl
theorem zero4:zeroFact Tryz.prog 4=some (some (.bool false)):=by kernel_rfl
theorem und4:Tryz.prog.underlying 4=some (.bool):=by kernel_rfl
theorem ty9:oneFact Tryz.prog 9=some (false,1):=by kernel_rfl
theorem zero9:zeroFact Tryz.prog 9=some (some (.string ⟨#[]⟩)):=by kernel_rfl
theorem und9:Tryz.prog.underlying 9=some (.string):=by kernel_rfl
theorem ty22:oneFact Tryz.prog 22=some (false,1):=by kernel_rfl
theorem sl22:slFact Tryz.prog 22=some (26,4,40,some 4):=by kernel_rfl
theorem ty24:oneFact Tryz.prog 24=some (true,9):=by kernel_rfl
theorem fld24_0:fieldFact Tryz.prog 24 0=some (0,some true):=by kernel_rfl
theorem fld24_1:fieldFact Tryz.prog 24 1=some (1,some true):=by kernel_rfl
theorem fld24_2:fieldFact Tryz.prog 24 2=some (2,some true):=by kernel_rfl
theorem fld24_3:fieldFact Tryz.prog 24 3=some (3,some true):=by kernel_rfl
theorem fld24_4:fieldFact Tryz.prog 24 4=some (4,some true):=by kernel_rfl
theorem fld24_5:fieldFact Tryz.prog 24 5=some (5,some true):=by kernel_rfl
theorem fld24_6:fieldFact Tryz.prog 24 6=some (6,some true):=by kernel_rfl
theorem fld24_7:fieldFact Tryz.prog 24 7=some (7,some true):=by kernel_rfl
theorem fld24_8:fieldFact Tryz.prog 24 8=some (8,some true):=by kernel_rfl
theorem zero24:zeroFact Tryz.prog 24=some (some (.agg [.int .i64 0,.string ⟨#[]⟩,.string ⟨#[]⟩,.slice none 0 0,.slice none 0 0,.int .i64 0,.int .i64 0,.int .i64 0,.int .i64 0].toArray)):=by kernel_rfl
theorem ty26:oneFact Tryz.prog 26=some (true,4):=by kernel_rfl
theorem fld26_0:fieldFact Tryz.prog 26 0=some (0,some true):=by kernel_rfl
theorem fld26_1:fieldFact Tryz.prog 26 1=some (1,some true):=by kernel_rfl
theorem fld26_2:fieldFact Tryz.prog 26 2=some (2,some true):=by kernel_rfl
theorem fld26_3:fieldFact Tryz.prog 26 3=some (3,some true):=by kernel_rfl
theorem zero26:zeroFact Tryz.prog 26=some (some (.agg [.int .i64 0,.int .i64 0,.string ⟨#[]⟩,.int .i64 0].toArray)):=by kernel_rfl
theorem ty27:oneFact Tryz.prog 27=some (false,1):=by kernel_rfl
theorem sl27:slFact Tryz.prog 27=some (24,9,120,some 9):=by kernel_rfl
theorem ty29:oneFact Tryz.prog 29=some (false,1):=by kernel_rfl
theorem zero29:zeroFact Tryz.prog 29=some (some (.int .i64 0)):=by kernel_rfl
theorem ty32:oneFact Tryz.prog 32=some (false,1):=by kernel_rfl
theorem sl32:slFact Tryz.prog 32=some (9,1,16,some 1):=by kernel_rfl
theorem zero32:zeroFact Tryz.prog 32=some (some (.slice none 0 0)):=by kernel_rfl
theorem ty34:oneFact Tryz.prog 34=some (true,4):=by kernel_rfl
theorem fld34_0:fieldFact Tryz.prog 34 0=some (0,some true):=by kernel_rfl
theorem fld34_1:fieldFact Tryz.prog 34 1=some (1,some true):=by kernel_rfl
theorem fld34_2:fieldFact Tryz.prog 34 2=some (2,some true):=by kernel_rfl
theorem fld34_3:fieldFact Tryz.prog 34 3=some (3,some true):=by kernel_rfl
theorem zero34:zeroFact Tryz.prog 34=some (some (.agg [.string ⟨#[]⟩,.slice none 0 0,.slice none 0 0,.int .i64 0].toArray)):=by kernel_rfl
theorem ty35:oneFact Tryz.prog 35=some (false,1):=by kernel_rfl
theorem sl35:slFact Tryz.prog 35=some (34,4,72,some 4):=by kernel_rfl
theorem ty36:oneFact Tryz.prog 36=some (false,1):=by kernel_rfl
theorem sl36:slFact Tryz.prog 36=some (37,1,24,some 1):=by kernel_rfl
theorem ty37:oneFact Tryz.prog 37=some (false,1):=by kernel_rfl
theorem sl37:slFact Tryz.prog 37=some (142,3,32,some 3):=by kernel_rfl
theorem ty38:oneFact Tryz.prog 38=some (false,1):=by kernel_rfl
theorem sl38:slFact Tryz.prog 38=some (112,2,32,some 2):=by kernel_rfl
theorem ty40:oneFact Tryz.prog 40=some (true,6):=by kernel_rfl
theorem fld40_0:fieldFact Tryz.prog 40 0=some (0,some true):=by kernel_rfl
theorem fld40_1:fieldFact Tryz.prog 40 1=some (1,some true):=by kernel_rfl
theorem fld40_2:fieldFact Tryz.prog 40 2=some (2,some true):=by kernel_rfl
theorem fld40_3:fieldFact Tryz.prog 40 3=some (3,some true):=by kernel_rfl
theorem fld40_4:fieldFact Tryz.prog 40 4=some (4,some true):=by kernel_rfl
theorem fld40_5:fieldFact Tryz.prog 40 5=some (5,some true):=by kernel_rfl
theorem zero40:zeroFact Tryz.prog 40=some (some (.agg [.slice none 0 0,.slice none 0 0,.slice none 0 0,.slice none 0 0,.slice none 0 0,.slice none 0 0].toArray)):=by kernel_rfl
theorem ty42:oneFact Tryz.prog 42=some (true,5):=by kernel_rfl
theorem fld42_1:fieldFact Tryz.prog 42 1=some (1,some true):=by kernel_rfl
theorem zero42:zeroFact Tryz.prog 42=some (some (.agg [.int .i64 0,.int .i64 0,.int .i64 0,.int .i64 0,.int .i64 0].toArray)):=by kernel_rfl
theorem ty45:oneFact Tryz.prog 45=some (false,1):=by kernel_rfl
theorem sl45:slFact Tryz.prog 45=some (3,1,8,some 1):=by kernel_rfl
theorem zero45:zeroFact Tryz.prog 45=some (some (.slice none 0 0)):=by kernel_rfl
theorem ty47:oneFact Tryz.prog 47=some (true,4):=by kernel_rfl
theorem fld47_0:fieldFact Tryz.prog 47 0=some (0,some true):=by kernel_rfl
theorem fld47_1:fieldFact Tryz.prog 47 1=some (1,some true):=by kernel_rfl
theorem fld47_2:fieldFact Tryz.prog 47 2=some (2,some true):=by kernel_rfl
theorem fld47_3:fieldFact Tryz.prog 47 3=some (3,some true):=by kernel_rfl
theorem zero47:zeroFact Tryz.prog 47=some (some (.agg [.int .i64 0,.int .i64 0,.int .i64 0,.slice none 0 0].toArray)):=by kernel_rfl
theorem ty49:oneFact Tryz.prog 49=some (true,5):=by kernel_rfl
theorem fld49_0:fieldFact Tryz.prog 49 0=some (0,some true):=by kernel_rfl
theorem fld49_1:fieldFact Tryz.prog 49 1=some (1,some true):=by kernel_rfl
theorem fld49_3:fieldFact Tryz.prog 49 3=some (3,some true):=by kernel_rfl
theorem fld49_4:fieldFact Tryz.prog 49 4=some (4,some true):=by kernel_rfl
theorem zero49:zeroFact Tryz.prog 49=some (some (.agg [.int .i64 0,.int .i64 0,.int .i64 0,.bool false,.bool false].toArray)):=by kernel_rfl
theorem ty52:oneFact Tryz.prog 52=some (false,1):=by kernel_rfl
theorem sl55:slFact Tryz.prog 55=some (47,4,48,some 4):=by kernel_rfl
theorem ty66:oneFact Tryz.prog 66=some (true,4):=by kernel_rfl
theorem fld66_0:fieldFact Tryz.prog 66 0=some (0,some true):=by kernel_rfl
theorem fld66_1:fieldFact Tryz.prog 66 1=some (1,some true):=by kernel_rfl
theorem zero66:zeroFact Tryz.prog 66=some (some (.agg [.int .i64 0,.int .i64 0,.int .i64 0,.slice none 0 0].toArray)):=by kernel_rfl
theorem sl67:slFact Tryz.prog 67=some (42,5,40,some 5):=by kernel_rfl
theorem ty74:oneFact Tryz.prog 74=some (false,1):=by kernel_rfl
theorem ty78:oneFact Tryz.prog 78=some (false,1):=by kernel_rfl
theorem ty79:oneFact Tryz.prog 79=some (false,1):=by kernel_rfl
theorem sl79:slFact Tryz.prog 79=some (94,1,8,some 1):=by kernel_rfl
theorem fld81_0:fieldFact Tryz.prog 81 0=some (0,some true):=by kernel_rfl
theorem fld81_1:fieldFact Tryz.prog 81 1=some (6,some true):=by kernel_rfl
theorem fld81_2:fieldFact Tryz.prog 81 2=some (7,some true):=by kernel_rfl
theorem fld81_3:fieldFact Tryz.prog 81 3=some (8,some true):=by kernel_rfl
theorem fld81_4:fieldFact Tryz.prog 81 4=some (9,some true):=by kernel_rfl
theorem fld81_5:fieldFact Tryz.prog 81 5=some (10,some true):=by kernel_rfl
theorem fld81_6:fieldFact Tryz.prog 81 6=some (11,some true):=by kernel_rfl
theorem fld81_7:fieldFact Tryz.prog 81 7=some (12,some true):=by kernel_rfl
theorem fld81_8:fieldFact Tryz.prog 81 8=some (13,some true):=by kernel_rfl
theorem fld81_9:fieldFact Tryz.prog 81 9=some (14,some true):=by kernel_rfl
theorem ty94:oneFact Tryz.prog 94=some (false,1):=by kernel_rfl
theorem ty95:oneFact Tryz.prog 95=some (false,1):=by kernel_rfl
theorem sl95:slFact Tryz.prog 95=some (183,2,32,some 2):=by kernel_rfl
theorem fld97_0:fieldFact Tryz.prog 97 0=some (0,some true):=by kernel_rfl
theorem fld97_1:fieldFact Tryz.prog 97 1=some (1,some true):=by kernel_rfl
theorem fld97_2:fieldFact Tryz.prog 97 2=some (2,some true):=by kernel_rfl
theorem fld97_3:fieldFact Tryz.prog 97 3=some (3,some true):=by kernel_rfl
theorem fld97_4:fieldFact Tryz.prog 97 4=some (4,some true):=by kernel_rfl
theorem sl106:slFact Tryz.prog 106=some (4,1,1,some 1):=by kernel_rfl
theorem ty112:oneFact Tryz.prog 112=some (true,2):=by kernel_rfl
theorem fld112_0:fieldFact Tryz.prog 112 0=some (0,some true):=by kernel_rfl
theorem fld112_1:fieldFact Tryz.prog 112 1=some (1,some true):=by kernel_rfl
theorem zero112:zeroFact Tryz.prog 112=some (some (.agg [.slice none 0 0,.int .i64 0].toArray)):=by kernel_rfl
theorem ty121:oneFact Tryz.prog 121=some (false,1):=by kernel_rfl
theorem zero121:zeroFact Tryz.prog 121=some (some (.map none)):=by kernel_rfl
theorem ty133:oneFact Tryz.prog 133=some (true,3):=by kernel_rfl
theorem fld133_0:fieldFact Tryz.prog 133 0=some (0,some true):=by kernel_rfl
theorem fld133_1:fieldFact Tryz.prog 133 1=some (1,some true):=by kernel_rfl
theorem fld133_2:fieldFact Tryz.prog 133 2=some (2,some true):=by kernel_rfl
theorem zero133:zeroFact Tryz.prog 133=some (some (.agg [.string ⟨#[]⟩,.int .i64 0,.slice none 0 0].toArray)):=by kernel_rfl
theorem ty135:oneFact Tryz.prog 135=some (false,1):=by kernel_rfl
theorem sl135:slFact Tryz.prog 135=some (152,4,32,some 4):=by kernel_rfl
theorem fld137_0:fieldFact Tryz.prog 137 0=some (0,some true):=by kernel_rfl
theorem fld137_1:fieldFact Tryz.prog 137 1=some (1,some true):=by kernel_rfl
theorem ty142:oneFact Tryz.prog 142=some (true,3):=by kernel_rfl
theorem fld142_0:fieldFact Tryz.prog 142 0=some (0,some true):=by kernel_rfl
theorem fld142_1:fieldFact Tryz.prog 142 1=some (1,some true):=by kernel_rfl
theorem fld142_2:fieldFact Tryz.prog 142 2=some (2,some true):=by kernel_rfl
theorem zero142:zeroFact Tryz.prog 142=some (some (.agg [.string ⟨#[]⟩,.int .i64 0,.int .i64 0].toArray)):=by kernel_rfl
theorem ty144:oneFact Tryz.prog 144=some (false,1):=by kernel_rfl
theorem fld146_0:fieldFact Tryz.prog 146 0=some (0,some true):=by kernel_rfl
theorem fld146_1:fieldFact Tryz.prog 146 1=some (1,some true):=by kernel_rfl
theorem fld146_2:fieldFact Tryz.prog 146 2=some (2,some true):=by kernel_rfl
theorem fld146_3:fieldFact Tryz.prog 146 3=some (3,some true):=by kernel_rfl
theorem fld146_4:fieldFact Tryz.prog 146 4=some (4,some true):=by kernel_rfl
theorem ty152:oneFact Tryz.prog 152=some (true,4):=by kernel_rfl
theorem fld152_0:fieldFact Tryz.prog 152 0=some (0,some true):=by kernel_rfl
theorem fld152_1:fieldFact Tryz.prog 152 1=some (1,some true):=by kernel_rfl
theorem fld152_2:fieldFact Tryz.prog 152 2=some (2,some true):=by kernel_rfl
theorem fld152_3:fieldFact Tryz.prog 152 3=some (3,some true):=by kernel_rfl
theorem zero152:zeroFact Tryz.prog 152=some (some (.agg [.int .i64 0,.int .i64 0,.int .i64 0,.int .i64 0].toArray)):=by kernel_rfl
theorem fld183_0:fieldFact Tryz.prog 183 0=some (0,some true):=by kernel_rfl
theorem fld183_1:fieldFact Tryz.prog 183 1=some (1,some true):=by kernel_rfl
theorem ty201:oneFact Tryz.prog 201=some (false,1):=by kernel_rfl
theorem zero201:zeroFact Tryz.prog 201=some (some (.nilFunc)):=by kernel_rfl
theorem sl216:slFact Tryz.prog 216=some (218,2,16,some 2):=by kernel_rfl
theorem zero216:zeroFact Tryz.prog 216=some (some (.slice none 0 0)):=by kernel_rfl
theorem ty218:oneFact Tryz.prog 218=some (true,2):=by kernel_rfl
theorem fld218_0:fieldFact Tryz.prog 218 0=some (0,some true):=by kernel_rfl
theorem fld218_1:fieldFact Tryz.prog 218 1=some (1,some true):=by kernel_rfl
theorem zero218:zeroFact Tryz.prog 218=some (some (.agg [.int .i64 0,.int .i64 0].toArray)):=by kernel_rfl
theorem sl233:slFact Tryz.prog 233=some (274,2,16,some 2):=by kernel_rfl
theorem ty240:oneFact Tryz.prog 240=some (false,1):=by kernel_rfl
theorem sl252:slFact Tryz.prog 252=some (35,1,24,some 1):=by kernel_rfl
theorem fld270_0:fieldFact Tryz.prog 270 0=some (0,some true):=by kernel_rfl
theorem fld272_0:fieldFact Tryz.prog 272 0=some (0,some true):=by kernel_rfl
theorem fld272_1:fieldFact Tryz.prog 272 1=some (1,some true):=by kernel_rfl
theorem zero272:zeroFact Tryz.prog 272=some (some (.agg [.slice none 0 0,.int .i64 0].toArray)):=by kernel_rfl
theorem ty274:oneFact Tryz.prog 274=some (true,2):=by kernel_rfl
theorem fld274_0:fieldFact Tryz.prog 274 0=some (0,some true):=by kernel_rfl
theorem fld274_1:fieldFact Tryz.prog 274 1=some (1,some true):=by kernel_rfl
theorem zero274:zeroFact Tryz.prog 274=some (some (.agg [.int .i64 0,.int .i64 0].toArray)):=by kernel_rfl
theorem ty301:oneFact Tryz.prog 301=some (true,16):=by kernel_rfl
theorem zero301:zeroFact Tryz.prog 301=some (some (.agg [.nilFunc,.nilFunc,.nilFunc,.nilFunc,.nilFunc,.nilFunc,.nilFunc,.nilFunc,.nilFunc,.nilFunc,.nilFunc,.nilFunc,.nilFunc,.nilFunc,.nilFunc,.nilFunc].toArray)):=by kernel_rfl
theorem bld34_0_3_2 (a0:ByteArray) (a3:Int) (a2:Option Addr) (n2 c2:Nat):pr Tryz.prog (Instr.build 34 [(0,.string a0),(3,.int .i64 a3),(2,.slice a2 n2 c2)].toArray)=some (.agg [.string a0,.slice none 0 0,.slice a2 n2 c2,.int .i64 a3].toArray):=by kernel_rfl
theorem bld40_1_2_3_4 (a1:Option Addr) (n1 c1:Nat) (a2:Option Addr) (n2 c2:Nat) (a3:Option Addr) (n3 c3:Nat) (a4:Option Addr) (n4 c4:Nat):pr Tryz.prog (Instr.build 40 [(1,.slice a1 n1 c1),(2,.slice a2 n2 c2),(3,.slice a3 n3 c3),(4,.slice a4 n4 c4)].toArray)=some (.agg [.slice none 0 0,.slice a1 n1 c1,.slice a2 n2 c2,.slice a3 n3 c3,.slice a4 n4 c4,.slice none 0 0].toArray):=by kernel_rfl
theorem bld112_0_1 (a0:Option Addr) (n0 c0:Nat) (a1:Int):pr Tryz.prog (Instr.build 112 [(0,.slice a0 n0 c0),(1,.int .i64 a1)].toArray)=some (.agg [.slice a0 n0 c0,.int .i64 a1].toArray):=by kernel_rfl
theorem bld137_0 (a0:Int):pr Tryz.prog (Instr.build 137 [(0,.int .i64 a0)].toArray)=some (.agg [.int .i64 a0,.slice none 0 0].toArray):=by kernel_rfl
theorem bld146_0_1_2_4 (a0:Option Addr) (n0 c0:Nat) (a1:Option Addr) (n1 c1:Nat) (a2:Option Addr) (n2 c2:Nat) (a4:Option Nat):pr Tryz.prog (Instr.build 146 [(0,.slice a0 n0 c0),(1,.slice a1 n1 c1),(2,.slice a2 n2 c2),(4,.map a4)].toArray)=some (.agg [.slice a0 n0 c0,.slice a1 n1 c1,.slice a2 n2 c2,.slice none 0 0,.map a4].toArray):=by kernel_rfl
theorem bld152_:pr Tryz.prog (Instr.build 152 [].toArray)=some (.agg [.int .i64 0,.int .i64 0,.int .i64 0,.int .i64 0].toArray):=by kernel_rfl
theorem bld152_0 (a0:Int):pr Tryz.prog (Instr.build 152 [(0,.int .i64 a0)].toArray)=some (.agg [.int .i64 a0,.int .i64 0,.int .i64 0,.int .i64 0].toArray):=by kernel_rfl
theorem bld218_0_1 (a0:Int) (a1:Int):pr Tryz.prog (Instr.build 218 [(0,.int .i64 a0),(1,.int .i64 a1)].toArray)=some (.agg [.int .i64 a0,.int .i64 a1].toArray):=by kernel_rfl
theorem eqf152:eqFact Tryz.prog 152=some [0,0,0,0]:=by kernel_rfl
end Go.Proofs.YtfkgkbhbdffckaaGreatDoor
namespace Go.Fw
def sep (H1 H2:HP):HP where
 p w F:=∃ F1 F2,H1.p w F1/\H2.p w F2/\(∀ b,F1 b->¬ F2 b)/\∀ b,F b↔F1 b\/F2 b
 loc w w' F h hh:=by
  obtain ⟨F1,F2,h1,h2,h3,h4⟩:=h
  exact ⟨F1,F2,H1.loc _ _ _ h1 λ b hb=>hh b ((h4 b).2 (.inl hb)),H2.loc _ _ _ h2 λ b hb=>hh b ((h4 b).2 (.inr hb)),h3,h4⟩
 lt w F b h hb:=by
  obtain ⟨F1,F2,h1,h2,h3,h4⟩:=h
  rcases (h4 b).1 hb with hf | hf
  ·exact H1.lt _ _ _ h1 hf
  ·exact H2.lt _ _ _ h2 hf
def exH {α:Type} (H:α->HP):HP where
 p w F:=∃ x,(H x).p w F
 loc w w' F h hh:=by obtain ⟨x,h⟩:=h; exact ⟨x,(H x).loc _ _ _ h hh⟩
 lt w F b h hb:=by obtain ⟨x,h⟩:=h; exact (H x).lt _ _ _ h hb
def fact (φ:Prop) (H:HP):HP where
 p w F:=φ/\H.p w F
 loc w w' F h hh:=⟨h.1,H.loc _ _ _ h.2 hh⟩
 lt w F b h hb:=H.lt _ _ _ h.2 hb
def emp:HP where
 p _ F:=∀ b,¬ F b
 loc _ _ _ h _:=h
 lt _ _ b h hb:=(h b hb).elim
section
variable {P:Program} {w w0 w':World} {A:Nat->Prop} {L:List HP} {H H1 H2:HP}
theorem St.split (h:St w0 A (sep H1 H2::L) w):St w0 A (H1::H2::L) w:=by
 obtain ⟨U,F,U',⟨F1,F2,g1,g2,g3,g4⟩,h2,h3,h4,h5⟩:=h.seps
 refine ⟨h.chg,U,F1,λ b=>F2 b\/U' b,g1,λ b hb=>h2 b ((g4 b).2 (.inl hb)),λ b hb hu=>?_,λ b=>?_,F2,U',g2,λ b hb=>h2 b ((g4 b).2 (.inr hb)),λ b hb hu=>h3 b ((g4 b).2 (.inr hb)) hu,λ b=>Iff.rfl,h5⟩
 ·rcases hu with hu | hu
  ·exact g3 b hb hu
  exact h3 b ((g4 b).2 (.inl hb)) hu
 rw [h4 b,g4 b,or_assoc]
theorem St.join (h:St w0 A (H1::H2::L) w):St w0 A (sep H1 H2::L) w:=by
 obtain ⟨U,F,U',h1,h2,h3,h4,F2,U2,g1,g2,g3,g4,g5⟩:=h.seps
 refine ⟨h.chg,U,λ b=>F b\/F2 b,U2,⟨F,F2,h1,g1,λ b hb hf=>h3 b hb ((g4 b).2 (.inl hf)),λ b=>Iff.rfl⟩,λ b hb=>hb.elim (h2 b) (g2 b),λ b hb hu=>?_,λ b=>?_,g5⟩
 ·rcases hb with hb | hb
  ·exact h3 b hb ((g4 b).2 (.inr hu))
  exact g3 b hb hu
 rw [h4 b,g4 b,or_assoc]
theorem St.openEx {α:Type} {H:α->HP} (h:St w0 A (exH H::L) w):∃ x,St w0 A (H x::L) w:=by
 obtain ⟨U,F,U',⟨x,h1⟩,h2⟩:=h.seps; exact ⟨x,h.chg,U,F,U',h1,h2⟩
theorem St.shutEx {α:Type} {H:α->HP} (x:α) (h:St w0 A (H x::L) w):St w0 A (exH H::L) w:=by
 obtain ⟨U,F,U',h1,h2⟩:=h.seps; exact ⟨h.chg,U,F,U',⟨x,h1⟩,h2⟩
theorem St.openF {φ:Prop} (h:St w0 A (fact φ H::L) w):φ/\St w0 A (H::L) w:=by
 obtain ⟨U,F,U',⟨x,h1⟩,h2⟩:=h.seps; exact ⟨x,h.chg,U,F,U',h1,h2⟩
theorem St.shutF {φ:Prop} (x:φ) (h:St w0 A (H::L) w):St w0 A (fact φ H::L) w:=by
 obtain ⟨U,F,U',h1,h2⟩:=h.seps; exact ⟨h.chg,U,F,U',⟨x,h1⟩,h2⟩
def Mut (F:Nat->Prop) (H':HP) (w w':World):Prop:=∃ F',H'.p w' F'/\(∀ b,F' b->F b\/w.heap.size<=b)/\Chg F w w'
def New (H:HP) (w w':World):Prop:=∃ F,H.p w' F/\(∀ b,F b->w.heap.size<=b)/\Ext w w'
theorem St.mut {F:Nat->Prop} (hs:St w F (H::L) w'):Mut F H w w':=by
 obtain ⟨F',h1,h2⟩:=hs.head; exact ⟨F',h1,h2,hs.chg⟩
theorem St.fresh (hs:St w none1 (H::L) w'):New H w w':=by
 obtain ⟨F',h1,h2⟩:=hs.head; exact ⟨F',h1,λ b hb=>(h2 b hb).elim (λ h=>h.elim) id,hs.chg⟩
theorem St.made (hs:St w0 A L w) (h:New H w w'):St w0 A (H::L) w':=by
 obtain ⟨F,h1,h2,h3⟩:=h; exact hs.new h3 h1 h2
theorem callP {f:FuncId} {args:List Value} {X:Value} {K:Value->World->Prop} (pl:Plain P f) (hs:St w0 A L w) (hc:Calls P f args.toArray w (Ret λ v w'=>v=X/\Ext w w')) (k:∀ w',Ext w w'->St w0 A L w'->K X w'):CallF P f args w K:=
 callF pl hc λ v w' h=>by obtain ⟨rfl,h2⟩:=h; exact k w' h2 (hs.ext h2)
theorem callN {f:FuncId} {args:List Value} {H:Value->HP} {K:Value->World->Prop} (pl:Plain P f) (hs:St w0 A L w) (hc:Calls P f args.toArray w (Ret λ v w'=>New (H v) w w')) (k:∀ v w',New (H v) w w'->St w0 A (H v::L) w'->K v w'):CallF P f args w K:=
 callF pl hc λ v w' h=>k v w' h (hs.made h)
theorem St.muted {F:Nat->Prop} {U':Nat->Prop} {H':HP} (hs:St w0 A (H::L) w) (h2:∀ b,F b->A b\/w0.heap.size<=b) (h3:∀ b,F b->¬ U' b) (h5:Seps w0 A L w U') (h:Mut F H' w w'):St w0 A (H'::L) w':=by
 obtain ⟨F',g1,g2,g3⟩:=h
 refine ⟨hs.chg.trans g3 (λ _ h=>h) λ b hb hf=>(h2 b hf).elim id λ hh=>by omega,λ b=>F' b\/U' b,F',U',g1,λ b hb=>?_,λ b hb hu=>?_,λ b=>Iff.rfl,?_⟩
 ·rcases g2 b hb with hf | hf
  ·exact h2 b hf
  exact .inr (Nat.le_trans hs.chg.size hf)
 ·rcases g2 b hb with hf | hf
  ·exact h3 b hf hu
  have:=h5.lt b hu; omega
 exact h5.loc λ b hb=>g3.blk b (h5.lt b hb) λ hf=>h3 b hf hb
theorem callMut {f:FuncId} {args:List Value} {H':Value->HP} {Φ:Value->World->Prop} {K:Value->World->Prop} (pl:Plain P f) (hs:St w0 A (H::L) w)
  (hc:∀ F,H.p w F->Calls P f args.toArray w (Ret λ v w'=>Φ v w'/\Mut F (H' v) w w')) (k:∀ v w',Φ v w'->St w0 A (H' v::L) w'->K v w'):CallF P f args w K:=by
 obtain ⟨U,F,U',h1,h2,h3,h4,h5⟩:=hs.seps
 exact callF pl (hc F h1) λ v w' ⟨hΦ,hM⟩=>k v w' hΦ (hs.muted h2 h3 h5 hM)
end
section
variable {α:Type} [Flat α] {P:Program} {w w0:World} {A S:Nat->Prop} {L:List HP} {xs ys:List α}
theorem RdL.one {v:Value} (h:RdL S w v xs):oneC v=true:=by obtain ⟨a,c,rfl,_⟩:=h; rfl
theorem run_append_in {T E by' R b n cap:Nat} {z:Option Nat} {src:Value} {cs:List Value} (ht:slFact P T=some (E,Flat.sz α,by',z)) (hb:Blk w b cs) (hsrc:RdL S w src ys)
  (hroom:n+ys.length<=cap) (hfit:n * Flat.sz α+ys.length * Flat.sz α<=cs.length) :
  ∃ w',(Builtin.append_ #[T,T] R [.slice (some ⟨b,0,none⟩) n cap,src].toArray).run P w = .ok (.slice (some ⟨b,0,none⟩) (n+ys.length) cap) w'/\Blk w' b (setAll cs (n * Flat.sz α) (flat ys))/\Chg (· = b) w w':=by
 obtain ⟨hu,inf,hi,hsz,hbytes,_⟩:=slFact_spec ht
 have rd:=hsrc
 obtain ⟨sa,scap,rfl,hsc,hs3⟩:=rd
 obtain ⟨w',h1,h2,h3⟩:=run_storeRow (P:=P) (o:=n * Flat.sz α) (flat ys) 0 cs w hb (by rw [flat_length]; omega) flat_one
 refine ⟨w',?_,by simpa using h2,h3⟩
 have hf:=run_first (α:=α) (P:=P) (sz:=Flat.sz α) rfl hsrc
 have hadd:(⟨b,0,none⟩:Addr).add (n * Flat.sz α)=⟨b,n * Flat.sz α,none⟩:=by rw [add_none,Nat.zero_add]
 simp [Builtin.append_,run_underlying hu,sizeOf,typeInfo,hi,Builtin.lenOf,hroom,hf,hsz,hadd,h1]
theorem run_clear {T E by' R b o n c:Nat} {z:α} {cs:List Value} (ht:SlT P T E (Flat.sz α) by') (hz:ZeroT P E (Flat.val z)) (hb:Blk w b cs) (hfit:o+n * Flat.sz α<=cs.length) :
  ∃ w',(Builtin.clear_ #[T] R [.slice (some ⟨b,o,none⟩) n c].toArray).run P w = .ok (.tuple #[]) w'/\Blk w' b (setAll cs o (flat (List.replicate n z)))/\Chg (· = b) w w':=by
 obtain ⟨hu,inf,hi,hsz,hbytes,_⟩:=slFact_spec ht
 unfold ZeroT zeroFact at hz
 rw [hi] at hz
 simp only [Option.map_some,Option.some.injEq] at hz
 by_cases h0:n=0
 ·subst h0
  refine ⟨w,?_,by simpa [flat_nil,setAll] using hb,Chg.refl _ _⟩
  simp [Builtin.clear_,run_underlying hu]
 have hzc:(Builtin.zeroCells (Flat.val z).cells n).toList=flat (List.replicate n z):=by
  rw [val_cells,<- flat_replicate]
  unfold Builtin.zeroCells madeCells
  simp [Flat.len]
 obtain ⟨w',h1,h2,h3⟩:=run_storeRow (P:=P) (o:=o) (flat (List.replicate n z)) 0 cs w hb (by rw [flat_length,List.length_replicate]; omega) flat_one
 refine ⟨w',?_,by simpa using h2,h3⟩
 simp [Builtin.clear_,run_underlying hu,zeroValue,typeInfo,hi,hz,h0,hzc,h1]
theorem pop_cut3 {T E sz by' n cap:Nat} {z:Option Nat} {a:Option Addr} {i j k:Int} {K:Value->Prop} (ht:slFact P T=some (E,sz,by',z)) (h0:0<=i) (h1:i<=j) (h2:j<=k) (h3:k<=cap)
  (kk:∀ v,K v):Pop P (Instr.sliceAt T (.slice a n cap) (some (.int .i64 i)) (some (.int .i64 j)) (some (.int .i64 k))) K:=by
 obtain ⟨hu,inf,hi',hsz,_⟩:=slFact_spec ht
 have hb:pr P (Instr.sliceBounds true n cap (some (.int .i64 i)) (some (.int .i64 j)) (some (.int .i64 k)))=some (i.toNat,j.toNat,k.toNat):=by
  simp only [Instr.sliceBounds,pr_bind,pr_pure,Option.bind_some]
  rw [pr_bound (by omega) (by omega)]
  simp only [Option.bind_some]
  rw [pr_bound (by omega) (by omega)]
  simp only [Option.bind_some]
  rw [pr_bound (by omega) (by omega)]
  rfl
 refine ⟨.slice (if k.toNat=i.toNat then a else a.map (·.add (i.toNat * sz))) (j.toNat - i.toNat) (k.toNat - i.toNat),?_,kk _⟩
 unfold Instr.sliceAt
 rw [pr_bind,pr_underlying hu]
 simp only [Option.bind_some]
 unfold Instr.slice
 rw [pr_bind,pr_underlying hu]
 simp only [Option.bind_some]
 rw [pr_bind,hb]
 simp only [Option.bind_some]
 rw [pr_bind,pr_sizeOf hi',hsz]
 rfl
end
def objH (b:Nat) (o:Obj):HP where
 p w F:=w.heap[b]? = some o/\∀ k,F k↔k=b
 loc w w' F h hh:=⟨(hh b ((h.2 b).2 rfl)).trans h.1,h.2⟩
 lt w F b' h hb:=by rw [(h.2 b').1 hb]; exact lt_of_heap h.1
section
variable {P:Program} {w w0 w':World} {A:Nat->Prop} {L:List HP}
theorem St.obj {b:Nat} {o:Obj} (hs:St w0 A (objH b o::L) w):w.heap[b]? = some o:=by
 obtain ⟨F,h,_⟩:=hs.head; exact h.1
theorem Ext.alloc (w:World) (o:Obj):Ext w (w.alloc o):=Ext.push w o
theorem St.alloc {o:Obj} (hs:St w0 A L w):St w0 A (objH w.heap.size o::L) (w.alloc o):=
 hs.new (F:=(· = w.heap.size)) (Ext.alloc w o) ⟨push_new w o,λ _=>Iff.rfl⟩ λ b hb=>Nat.le_of_eq hb.symm
theorem Chg.putObj (w:World) (b:Nat) (o:Obj):Chg (· = b) w (w.putObj b o):=
 ⟨rfl,rfl,rfl,by simp,λ k _ hn=>World.putObj_heap_other hn⟩
theorem St.putObj {b:Nat} {o:Obj} (o':Obj) (hs:St w0 A (objH b o::L) w):St w0 A (objH b o'::L) (w.putObj b o'):=
 hs.turn λ F hF=>⟨F,⟨World.putObj_heap_same (lt_of_heap hF.1),hF.2⟩,λ _ h=>.inl h,(Chg.putObj w b o').mono λ k hk=>(hF.2 k).2 hk⟩
theorem CallV.mono {fv:Value} {args:List Value} {K K':Value->World->Prop} (h:CallV P fv args w K) (hk:∀ v w,K v w->K' v w):CallV P fv args w K':=
 DOp.mono (P:=P) (k:=.callv fv args) h hk
theorem uop_blkV {α:Type} [Flat α] {T:TypeId} {b:Nat} {cs:List Value} {x:α} {K:World->Prop} (hs:St w0 A (blk b cs::L) w) (ht:AggT P T (Flat.sz α)) (ha:Flat.agg α=true) (hl:cs.length=Flat.sz α)
  (k:∀ w',St w0 A (blk b (Flat.enc x)::L) w'->K w'):Uop P (Instr.storeAt T (.pointer (some ⟨b,0,none⟩)) (Flat.val x)) w K:=by
 rw [Flat.vagg ha]
 refine uop_blkA hs ht (Flat.len x) (by rw [Nat.zero_add,hl]; exact Nat.le_refl _) (Flat.one x) λ w' h=>k w' ?_
 have:=setAll_mid [] cs [] (Flat.enc x) (by rw [Flat.len,hl])
 simp only [List.length_nil,List.nil_append,List.append_nil] at this
 rwa [this] at h
theorem run_at {α:Type} [Flat α] {S:Nat->Prop} {T:TypeId} {p:Value} {x:α} (ht:oneFact P T=some (Flat.agg α,Flat.sz α)) (h:At S w p x):(Instr.loadAt T p).run P w = .ok (Flat.val x) w:=by
 obtain ⟨v,h1,h2⟩:=(qop_at (K:=λ v=>v=Flat.val x) ht h rfl).ex
 rw [<- h2]; exact h1
theorem cond_yb {b:Bool} {A B:Prop} (h:b=true) (a:A):CondV (.bool b) A B:=⟨⟨_,rfl,λ _=>a,λ hh=>by rw [h] at hh; cases hh⟩⟩
theorem cond_nb {b:Bool} {A B:Prop} (h:b=false) (a:B):CondV (.bool b) A B:=⟨⟨_,rfl,λ hh=>(by rw [h] at hh; cases hh),λ _=>a⟩⟩
theorem take1 {D:Nat} {K:World->Prop} (hs:St w0 A (objH D (.deferred (some []))::L) w) (k:∀ w',St w0 A L w'->K w'):takeAll [D] w K:=
 ⟨hs.obj,k _ (hs.putObj (.deferred none)).drop⟩
theorem loop_ready (L0:Loop) (h1:L0.state = .ready) (h2:L0.pending=none):({L0 with state:=if (none:Option Code).isNone=true then LoopState.ready else LoopState.done,pending:=none}:Loop)=L0:=by
 cases L0; simp only at h1 h2; subst h1; subst h2; rfl
theorem range_st {gf np:Nat} {cap:List Value} {xs:List (List Value)} {round:List Value->World->(World->(World->Prop)->Prop)->(Option Code->World->Prop)->Prop}
  {N R:Nat->World->Prop} {X:Nat->Nat->World->Prop} (pl:Plain P gf) (hs:St w0 A L w) (I:Nat->List HP->Prop) (Ix:Code->List HP->Prop) (h0:I 0 L) (hnp:∀ x∈xs,x.length=np)
  (hgf:∀ (y:Value) (J:Nat->World->Prop) (Jx:World->Prop) (W:World),(∀ k W,J k W->∃ Y M,I k M/\St w0 A (Y::M) W)->(∀ k W W',J k W->Ext W W'->J k W')->J 0 W->
   (∀ k args W',xs[k]? = some args->J k W'->CallV P y args W' (λ v W''=>(v = .bool true/\J (k+1) W'')\/(v = .bool false/\Jx W'')))->
   Calls P gf ([y]++cap).toArray W (Ret λ _ W'=>J xs.length W'\/Jx W'))
  (hround:∀ k args (Y1 Y2:HP) (B:World->(World->Prop)->Prop) (Kr:Option Code->World->Prop) M W,xs[k]? = some args->I k M->
   (∀ M w1 (kk:World->Prop),St w0 A (Y1::M) w1->(∀ w2,St w0 A (Y2::M) w2->kk w2)->B w1 kk)->
   (∀ M w1,St w0 A (Y2::M) w1->I (k+1) M->Kr none w1)->(∀ c M w1,St w0 A (Y2::M) w1->Ix c M->Kr (some c) w1)->
   St w0 A (Y1::M) W->round args W B Kr)
  (hdone:∀ D M W,I xs.length M->St w0 A (objH D (.deferred (some []))::M) W->N D W)
  (hret:∀ D M W,Ix .ret M->St w0 A (objH D (.deferred (some []))::M) W->R D W)
  (hexit:∀ id D M W,Ix (.exit id) M->St w0 A (objH D (.deferred (some []))::M) W->X id D W)
  (hother:∀ c M,Ix c M->(∃ id,c = .exit id)\/c = .ret) :
  RangeFn P (.func (.func gf) #[] cap.toArray) np w round (aft N R X):=by
 refine ⟨gf,cap.toArray,rfl,pl,λ L0 hst hpe hy=>?_⟩
 obtain ⟨l,hl⟩:∃ l,l=w.heap.size+1:=⟨_,rfl⟩
 obtain ⟨D,hD⟩:∃ D,D=w.heap.size:=⟨_,rfl⟩
 rw [<- hl] at hy |-
 rw [<- hD]
 let J:Nat->World->Prop:=λ k W=>∃ M,I k M/\St w0 A (objH l (.loop L0)::objH D (.deferred (some []))::M) W
 let Jx:World->Prop:=λ W=>∃ c M,Ix c M/\St w0 A (objH l (.loop {L0 with state:=.done,pending:=some c})::objH D (.deferred (some []))::M) W
 have hJ0:J 0 ((w.alloc (.deferred (some []))).alloc (.loop L0)):=by
  refine ⟨L,h0,?_⟩
  have h1:=(hs.alloc (o:=.deferred (some []))).alloc (o:=.loop L0)
  rw [show (w.alloc (.deferred (some []))).heap.size=l from by rw [hl]; exact push_size w _,<- hD] at h1
  exact h1
 have:=hgf (.func (.yield l) #[] #[]) J Jx _ (λ k W ⟨M,hI,hS⟩=>⟨_,M,hI,St.join hS⟩) (λ k W W' ⟨M,hI,hS⟩ e=>⟨M,hI,hS.ext e⟩) hJ0 ?_
 ·have e:([Value.func (.yield l) #[] #[]]++cap).toArray = #[.func (.yield l) #[] #[]]++cap.toArray:=by simp
  rw [e] at this
  refine this.mono λ x W' ⟨v,hx,hv⟩=>⟨v,hx,?_⟩
  rcases hv with ⟨M,hI,hS⟩ | ⟨c,M,hI,hS⟩
  ·refine ⟨.ready,none,by simp,?_,?_⟩
   ·rw [<- hst,<- hpe]; exact hS.obj
   exact hdone D M _ hI (hS.putObj _).drop
  refine ⟨.done,some c,by simp,hS.obj,?_⟩
  rcases hother c M hI with ⟨id,rfl⟩ | rfl
  ·exact hexit id D M _ hI (hS.putObj _).drop
  exact hret D M _ hI (hS.putObj _).drop
 intro k args W hk ⟨M,hI,hS⟩
 refine ⟨.inr ⟨l,rfl,?_⟩⟩
 refine hy args W _ (hnp args (List.mem_of_getElem? hk)) hS.obj ?_
 refine hround k args (sep (objH l (.loop L0)) (objH D (.deferred (some [])))) (sep (objH l (.loop {L0 with state:=.busy})) (objH D (.deferred (some [])))) _ _ M W hk hI
  (λ M w1 kk h1 h2=>?_) (λ M w1 h1 h2=>?_) (λ c M w1 h1 h2=>?_) (St.join hS)
 ·have h1:=h1.split
  exact ⟨h1.obj,h2 _ (h1.putObj _).join⟩
 ·have h1:=h1.split
  refine ⟨h1.obj,.inl ⟨rfl,M,h2,?_⟩⟩
  have:=h1.putObj (.loop {L0 with state:=if (none:Option Code).isNone=true then LoopState.ready else LoopState.done,pending:=none})
  rw [loop_ready L0 hst hpe] at this |-
  exact this
 have h1:=h1.split
 exact ⟨h1.obj,.inr ⟨rfl,c,M,h2,h1.putObj _⟩⟩
end
section
variable {P:Program} {w w0:World} {A S:Nat->Prop} {L:List HP}
theorem pop_min {t:Array TypeId} {T:TypeId} {a b:Int} {K:Value->Prop} (k:K (.int .i64 (min a b))):Pop P (Builtin.min_ t T [.int .i64 a,.int .i64 b].toArray) K:=by
 refine ⟨_,?_,k⟩
 show pr P (Builtin.min2 (.int .i64 a) (.int .i64 b))=_
 unfold Builtin.min2
 by_cases h:b<a
 ·simp [h,pr_pure]; omega
 simp [h,pr_pure]; omega
theorem pop_max {t:Array TypeId} {T:TypeId} {a b:Int} {K:Value->Prop} (k:K (.int .i64 (max a b))):Pop P (Builtin.max_ t T [.int .i64 a,.int .i64 b].toArray) K:=by
 refine ⟨_,?_,k⟩
 show pr P (Builtin.max2 (.int .i64 a) (.int .i64 b))=_
 unfold Builtin.max2
 by_cases h:a<b
 ·simp [h,pr_pure]; omega
 simp [h,pr_pure]; omega
end
section
variable {P:Program} {α:Type} [Flat α] {A:Nat->Prop} {w0 w:World} {L:List HP} {xs:List α}
def OwnAtF (α:Type) [Flat α] (v:Value) (i off:Nat) (p:Value):Prop:=∃ b n c,v = .slice (some ⟨b,0,none⟩) n c/\p = .pointer (some ⟨b,i * Flat.sz α+off,none⟩)
theorem pop_ownf {T f off i:Nat} {v p:Value} {K:Value->Prop} (ht:FieldT P T f off) (h:OwnAt α v i p) (k:∀ q,OwnAtF α v i off q->K q):Pop P (Instr.fieldAt T p f) K:=by
 obtain ⟨b,n,c,h1,rfl⟩:=h
 exact pop_field ht (k _ ⟨b,n,c,h1,rfl⟩)
theorem qop_ownf {β:Type} [Flat β] {T:Nat} {v p:Value} {i off:Nat} {x:α} (y:β) {K:Value->Prop} (hs:St w0 A (ownL v xs::L) w) (ht:oneFact P T=some (Flat.agg β,Flat.sz β)) (hp:OwnAtF α v i off p) (hx:xs[i]? = some x)
  (hy:((Flat.enc x).drop off).take (Flat.sz β)=Flat.enc y) (k:K (Flat.val y)):Qop P (Instr.loadAt T p) w K:=by
 obtain ⟨F,h,_⟩:=hs.head
 obtain ⟨b,cap,rest,hv,hb,hl,_⟩:=own_split h (List.getElem?_eq_some_iff.1 hx).1
 obtain ⟨b',n,c,hv',rfl⟩:=hp
 rw [hv] at hv'
 simp only [Value.slice.injEq,Option.some.injEq,Addr.mk.injEq] at hv'
 obtain ⟨⟨rfl,_,_⟩,_,_⟩:=hv'
 refine qop_at (S:=λ _=>True) ht ⟨b,i * Flat.sz α+off,rfl,trivial,λ j c hj=>hb.cell ?_⟩ k
 rw [<- hy,List.getElem?_take] at hj
 split at hj
 ·rw [List.getElem?_drop] at hj
  have:=flat_get hx hj
  rw [Nat.add_assoc,List.getElem?_append_left (List.getElem?_eq_some_iff.1 this).1]; exact this
 cases hj
theorem uop_ownf {β:Type} [Flat β] {T:Nat} {v p:Value} {i off:Nat} {K:World->Prop} {x:α} (y:α) (z:β) (hs:St w0 A (ownL v xs::L) w) (ht:oneFact P T=some (Flat.agg β,Flat.sz β)) (hp:OwnAtF α v i off p) (hx:xs[i]? = some x)
  (hlen:off+Flat.sz β<=Flat.sz α) (hy:(Flat.enc x).take off++Flat.enc z++(Flat.enc x).drop (off+Flat.sz β)=Flat.enc y)
  (k:∀ w',St w0 A (ownL v (xs.set i y)::L) w'->K w'):Uop P (Instr.storeAt T p (Flat.val z)) w K:=by
 obtain ⟨U,F,U',g1,g2,g3,g4,g5⟩:=hs.seps
 have hi:=(List.getElem?_eq_some_iff.1 hx).1
 obtain ⟨b,cap,rest,hv,hb,hl,hF⟩:=own_split g1 hi
 obtain ⟨b',n,c,hv',rfl⟩:=hp
 rw [hv] at hv'
 simp only [Value.slice.injEq,Option.some.injEq,Addr.mk.injEq] at hv'
 obtain ⟨⟨rfl,_,_⟩,_,_⟩:=hv'
 have hsp:=flat_split hx
 have htl:(flat (xs.take i)).length=i * Flat.sz α:=by rw [flat_length,List.length_take,Nat.min_eq_left (by omega)]
 have hel:i * Flat.sz α+Flat.sz α<=(flat xs).length:=by
  rw [flat_length,<- Nat.succ_mul]; exact Nat.mul_le_mul_right _ hi
 have hxl:(Flat.enc x).length=Flat.sz α:=Flat.len x
 have hzl:(Flat.enc z).length=Flat.sz β:=Flat.len z
 obtain ⟨w',h1,h2,h3⟩:=run_storeRow (P:=P) (o:=i * Flat.sz α+off) (Flat.enc z) 0 (flat xs++rest) w hb (by rw [hzl,List.length_append]; omega) (Flat.one z)
 have hset:setAll (flat xs++rest) (i * Flat.sz α+off+0) (Flat.enc z)=flat (xs.set i y)++rest:=by
  have:=setAll_mid (flat (xs.take i)++(Flat.enc x).take off) (((Flat.enc x).drop off).take (Flat.sz β)) ((Flat.enc x).drop (off+Flat.sz β)++flat (xs.drop (i+1))++rest) (Flat.enc z)
   (by rw [hzl,List.length_take,List.length_drop]; omega)
  rw [List.length_append,htl,List.length_take,Nat.min_eq_left (by omega)] at this
  rw [Nat.add_zero,flat_set y hi,hsp,<- hy]
  have e1:Flat.enc x=(Flat.enc x).take off++((Flat.enc x).drop off).take (Flat.sz β)++(Flat.enc x).drop (off+Flat.sz β):=by
   rw [<- List.drop_drop,List.append_assoc,List.take_append_drop,List.take_append_drop]
  have e2:flat (xs.take i)++Flat.enc x++flat (xs.drop (i+1))++rest=flat (xs.take i)++(Flat.enc x).take off++((Flat.enc x).drop off).take (Flat.sz β)++((Flat.enc x).drop (off+Flat.sz β)++flat (xs.drop (i+1))++rest):=by
   conv=>lhs; rw [e1]
   simp only [List.append_assoc]
  rw [e2,this]
  simp only [List.append_assoc]
 rw [hset] at h2
 refine ⟨w',?_,k w' ⟨hs.chg.trans (h3.mono λ k hk=>(hF k).2 hk) (λ _ h=>h) λ b hb hf=>(g2 b hf).elim id λ hh=>by omega,U,F,U',?_,g2,g3,g4,
  g5.loc λ b hb=>(h3.mono λ k hk=>(hF k).2 hk).blk b (g5.lt b hb) λ hf=>g3 b hf hb⟩⟩
 ·show (storeVar T ⟨b,i * Flat.sz α+off,none⟩ (Flat.val z)).run P w=_
  unfold storeVar
  rw [run_bind_ok (run_of_pr (oneFact_spec ht).2 w),val_cells]
  simp only [List.size_toArray,Flat.len,ne_eq,not_true_eq_false,if_false]
  exact h1
 refine .inr ⟨b,cap,rest,by rw [List.length_set]; exact hv,h2,?_,hF⟩
 rw [List.length_append,flat_length] at hl |-; rw [List.length_set]; exact hl
theorem qop_sub {T:Nat} {b o:Nat} {cs:List Value} (x:α) {K:Value->Prop} (ht:oneFact P T=some (Flat.agg α,Flat.sz α)) (hb:Blk w b cs) (hx:(cs.drop o).take (Flat.sz α)=Flat.enc x) (k:K (Flat.val x)) :
  Qop P (Instr.loadAt T (.pointer (some ⟨b,o,none⟩))) w K:=by
 refine qop_at (S:=λ _=>True) ht ⟨b,o,rfl,trivial,λ j c hj=>hb.cell ?_⟩ k
 rw [<- hx,List.getElem?_take] at hj
 split at hj
 ·rw [List.getElem?_drop] at hj; exact hj
 cases hj
end
structure SV where
 a:Option Addr
 n:Nat
 cap:Nat
instance:Flat SV where
 agg:=false
 sz:=1
 enc s:=[.slice s.a s.n s.cap]
 val s:=.slice s.a s.n s.cap
 pos:=by decide
 len _:=rfl
 one a v h:=by rw [List.mem_singleton.1 h]; rfl
 vagg h:=by cases h
 vone _ _:=rfl
section
variable {P:Program} {α:Type} [Flat α] {A:Nat->Prop} {w0 w:World} {L L':List HP} {v:Value}
def rows:List SV->List (List α)->HP
 | [],[]=>emp
 | s::ss,x::xs=>sep (ownL (Flat.val s) x) (rows ss xs)
 | _,_=>fact False emp
theorem St.isSV {xs:List α} (hs:St w0 A (ownL v xs::L) w):∃ s:SV,v=Flat.val s:=by
 obtain ⟨F,h,_⟩:=hs.head
 rcases h with ⟨rfl,_⟩ | ⟨b,cap,_,rfl,_⟩
 ·exact ⟨⟨none,0,0⟩,rfl⟩
 exact ⟨⟨_,_,_⟩,rfl⟩
theorem RdL.isSV {S:Nat->Prop} {xs:List α} (h:RdL S w v xs):∃ s:SV,v=Flat.val s:=by
 obtain ⟨a,cap,rfl,_⟩:=h; exact ⟨⟨_,_,_⟩,rfl⟩
def RdLL (w:World) (v:Value) (xs:List (List α)):Prop:=
 ∃ ss:List SV,RdL (λ _=>True) w v ss/\ss.length=xs.length/\∀ (i:Nat) (s:SV) (x:List α),ss[i]? = some s->xs[i]? = some x->RdL (λ _=>True) w (Flat.val s) x
end
section
variable {P:Program}
theorem pop_cutHi' {α:Type} [Flat α] {S:Nat->Prop} {w:World} {xs:List α} {T E by':Nat} {z:Option Nat} {v:Value} {i:Int} {K:Value->Prop} (ht:slFact P T=some (E,Flat.sz α,by',z)) (hr:RdL S w v xs) (h0:0<=i) (h2:i<=xs.length)
  (k:∀ v',(∀ w',RdL S w' v xs->RdL S w' v' (xs.take i.toNat))->K v'):Pop P (Instr.sliceAt T v none (some (.int .i64 i)) none) K:=by
 obtain ⟨a,cap,rfl,hcap,h3⟩:=hr
 refine ⟨_,pr_cut ht (pr_bounds (.inl ⟨rfl,rfl⟩) (.inr ⟨i,rfl,h0,rfl⟩) (Nat.zero_le _) (by omega)),k _ λ w' h=>?_⟩
 have:=h.cut rfl (Nat.zero_le i.toNat) (by omega)
 simpa using this
end
open Go.ChangeShapes Go.WideShapes Go.ChangeAt Go.RowKit
structure RdT (P:Program) (t:TypeId) (α:Type) [Flat α] (φ:α->Prop):Prop where
 cells:P.cellsOf t=Flat.sz α
 rd:∀ {H:Type} (enc:TypeId × Value->H) (w:World) (base:Nat) (sp:Nat->Bool) (held:Bool) (fuel:Nat) (cs:List Value) (x:DataW H × List MemPlace),
  DataW.trod enc P w base sp held fuel t cs=some x->∃ a:α,cs=Flat.enc a/\φ a
def i64ok (n:Int):Prop:=-9223372036854775808<=n/\n<=9223372036854775807
theorem rd_int {P:Program} {t:TypeId} (ht:P.underlying t=some (.int .i64)) (hc:P.cellsOf t=1):RdT P t Int i64ok:=
 ⟨hc,λ enc w base sp held fuel cs x h=>by
  obtain ⟨n,h1,_,h3⟩:=DataW.trod_int ht h
  refine ⟨n,h1,?_⟩
  simpa [Lit.wf,IntKind.min,IntKind.max,IntKind.signed,IntKind.bits,i64ok] using h3⟩
theorem rd_str {P:Program} {t:TypeId} (ht:P.underlying t=some .string) (hc:P.cellsOf t=1):RdT P t ByteArray (λ s=>s.size<=maxLen):=
 ⟨hc,λ enc w base sp held fuel cs x h=>by
  obtain ⟨n,h1,_,h2⟩:=DataW.trod_string ht h
  exact ⟨n,h1,h2⟩⟩
theorem trod_parts {H:Type} {enc:TypeId × Value->H} {P:Program} {w:World} {base:Nat} {sp:Nat->Bool} {held:Bool} {fuel:Nat} {t:TypeId} {fs:Array Field} {cs:List Value} {x:DataW H × List MemPlace}
  (ht:P.underlying t=some (.struct fs)) (h:DataW.trod enc P w base sp held fuel t cs=some x) :
  cs.length=P.cellsOf t/\∃ n,∀ (i:Nat) (f:Field),fs[i]? = some f->∃ y,DataW.trod enc P w base sp held n f.type ((cs.drop f.offset).take (P.cellsOf f.type))=some y:=by
 obtain ⟨xs,n,_,_,hl,hs,hf⟩:=DataW.trod_struct ht h
 refine ⟨hl,n,λ i f hi=>?_⟩
 have hlt:i<xs.length:=by rw [hs]; exact (Array.getElem?_eq_some_iff.1 hi).1
 exact ⟨xs[i],by rw [hf i f hi,List.getElem?_eq_getElem hlt]⟩
theorem part_step {cs:List Value} {o s:Nat} {r:List Value} (h:(cs.drop o).take s=r):cs.drop o=r++cs.drop (o+s):=by
 rw [<- h,<- List.drop_drop,List.take_append_drop]
theorem list_of {α:Type} {p:Nat->α->Prop}:∀ n,(∀ i,i<n->∃ x,p i x)->∃ xs:List α,xs.length=n/\∀ i x,xs[i]? = some x->p i x:=by
 intro n
 induction n with
 | zero=>intro _; exact ⟨[],rfl,by simp⟩
 | succ n ih=>
  intro h
  obtain ⟨xs,h1,h2⟩:=ih λ i hi=>h i (by omega)
  obtain ⟨x,hx⟩:=h n (by omega)
  refine ⟨xs++[x],by simp [h1],λ i y hy=>?_⟩
  by_cases hi:i<n
  ·rw [List.getElem?_append_left (by omega)] at hy; exact h2 i y hy
  ·have hlt:i<(xs++[x]).length:=(List.getElem?_eq_some_iff.1 hy).1
   have:i=n:=by simp [h1] at hlt; omega
   subst this
   rw [List.getElem?_append_right (by omega),h1] at hy
   simp at hy
   rw [<- hy]; exact hx
theorem flat_index {α:Type} [Flat α] {xs:List α} {j:Nat} {c:Value} (h:(flat xs)[j]? = some c):∃ i r x,xs[i]? = some x/\(Flat.enc x)[r]? = some c/\j=i * Flat.sz α+r:=by
 have hlt:j<(flat xs).length:=(List.getElem?_eq_some_iff.1 h).1
 rw [flat_length] at hlt
 have hp:0<Flat.sz α:=Flat.pos
 have hi:j / Flat.sz α<xs.length:=Nat.div_lt_of_lt_mul (by rw [Nat.mul_comm]; exact hlt)
 have hr:j % Flat.sz α<Flat.sz α:=Nat.mod_lt _ hp
 have hj:j=j / Flat.sz α * Flat.sz α+j % Flat.sz α:=by rw [Nat.mul_comm]; exact (Nat.div_add_mod _ _).symm
 have hx:xs[j / Flat.sz α]? = some (xs[j / Flat.sz α]):=List.getElem?_eq_getElem hi
 have hc:(Flat.enc (xs[j / Flat.sz α]))[j % Flat.sz α]? = some ((Flat.enc (xs[j / Flat.sz α]))[j % Flat.sz α]'(by rw [Flat.len]; exact hr)):=List.getElem?_eq_getElem _
 have:=flat_get hx hc
 rw [<- hj,h] at this
 exact ⟨_,_,_,hx,hc.trans this.symm,hj⟩
section
variable {H:Type} {enc:TypeId × Value->H} {P:Program} {w:World} {base:Nat} {held:Bool}
theorem open_i64 {r:Reach} {b0:Nat} {t:TypeId} {v:Value} {d:DataW H} {ps:List MemPlace} {sp:Nat->Bool} (ht:P.underlying t=some (.int .i64)) (hval:Value.okWide P w r b0 t v) (hd:DataW.Trod enc P w base sp held t v d ps) :
  ∃ n,v = .int .i64 n/\i64ok n:=by
 obtain ⟨n,h1,_,_,h4⟩:=open_int ht hval hd
 exact ⟨n,h1,by simpa [Lit.wf,IntKind.min,IntKind.max,IntKind.signed,IntKind.bits,i64ok] using h4⟩
def rowedB (P:Program) (ts:List TypeId):Bool:=ts.all λ t=>P.readableRec t && decide (t<P.types.size)
theorem trodAll_below (hl:laidOutB P=true) {W W':World} (hb:Below W.heap.size W W') {sp:Nat->Bool}:∀ {ts:List TypeId} {vs:List Value} {ds:List (DataW H)} {ps:List MemPlace},rowedB P ts=true->(∀ x∈ps,x.block<W.heap.size)->
  (∀ x∈ps,sp x.block=true)->DataW.TrodAll enc P W 0 (λ _=>true) true ts vs ds ps->DataW.TrodAll enc P W' 0 sp true ts vs ds ps
 | [],vs,ds,ps,_,_,_,h=>by obtain ⟨rfl,rfl,rfl⟩:=trodAll_nil h; exact trodAll_mk0
 | t::ts,vs,ds,ps,hr,hlt,hsp,h=>by
  obtain ⟨v,vs1,d,ds1,a,b,rfl,rfl,rfl,h1,h2⟩:=trodAll_cons h
  have hr':P.readableRec t=true/\t<P.types.size/\rowedB P ts=true:=by
   unfold rowedB at hr
   rw [List.all_cons,Bool.and_eq_true,Bool.and_eq_true,decide_eq_true_eq] at hr
   exact ⟨hr.1.1,hr.1.2,hr.2⟩
  refine trodAll_cons_mk (WideElems.Trod_stays hl hr'.1 hr'.2.1 h1 (λ x hx=>hb.same (hlt x (List.mem_append_left _ hx))) (λ x hx=>hsp x (List.mem_append_left _ hx))) ?_
  exact trodAll_below hl hb hr'.2.2 (λ x hx=>hlt x (List.mem_append_right _ hx)) (λ x hx=>hsp x (List.mem_append_right _ hx)) h2
theorem post_true {f:Func} {s:ChangeSpec} {apart fresh handsOn again:Bool} {W W':World} {args:Array Value} {ds gs:List (DataW H)} {before:List MemPlace} {tb:TypeId}
  (hvars:s.vars=[]) (hfn:∀ ds:List (DataW H),ds.length=f.params.size->s.fn H ds={results:=[.lit (.bool true)],args:=ds}) (hres:f.resultTypes = #[tb]) (htb:P.underlying tb=some .bool)
  (hl:laidOutB P=true) (hrow:rowedB P f.params.toList=true)
  (hW:DataW.Whole enc P f.params.toList s.vars apart W args.toList ds gs before) (hb:Below W.heap.size W W') :
  s.post enc P f apart fresh handsOn again W args (.bool true) W':=by
 have hW':=hW
 obtain ⟨p,q,hA,hV,hpq,hz,hn⟩:=hW
 have hlt:∀ x∈before,x.block<W.heap.size:=hW'.lt
 rw [hvars] at hV
 obtain ⟨rfl,rfl⟩:=trodVars_none hV
 simp only [List.append_nil] at hpq
 have hlen:ds.length=f.params.size:=by
  have:=(trodAll_length hA).2
  simpa using this
 have hfn':=hfn ds hlen
 have hres':∀ (b:Nat) (sp:Nat->Bool) (hd:Bool),DataW.TrodAll enc P W' b sp hd f.resultTypes.toList ((Value.bool true).resultList f.resultTypes.size) (s.fn H (ds++[])).results []:=λ b sp hd=>by
  rw [List.append_nil,hfn',hres]
  exact trodAll_mk1 (shut_bool htb true)
 have hargs:∀ sp:Nat->Bool,(∀ p∈before,sp p.block=true)->DataW.TrodAll enc P W' 0 sp true f.params.toList args.toList (s.fn H (ds++[])).args before:=λ sp hsp=>by
  rw [List.append_nil,hfn']
  rw [hpq] at hlt hsp |-
  exact trodAll_below hl hb hrow hlt hsp hA
 have hvars':∀ sp:Nat->Bool,DataW.TrodVars enc P W' sp s.vars (s.fn H (ds++[])).vars []:=λ sp=>by
  rw [List.append_nil,hfn',hvars]; rfl
 have hok:∀ (j:Nat) (t:TypeId) (r:Value),f.resultTypes[j]? = some t->((Value.bool true).resultList f.resultTypes.size)[j]? = some r->Value.okWide P W' .any 0 t r:=
  ok_one hres rfl (okWide_bool_mk htb true)
 have hold:∀ p∈before,(λ b=>decide (b<W.heap.size)) p.block=true:=λ p hp=>by simpa using hlt p hp
 refine ⟨ds,[],before,[],before,[],hW',hres' _ _ _,hargs _ hold,hvars' _,World.keptBut_mono (λ p hp=>⟨hp,?_⟩) (hb.frame (·∈before)),λ _=>?_⟩
 ·simpa using hp
 refine ⟨hok,_,_,([]++before)++[],⟨[]++before,[],trodAll_append (hargs _ (λ _ _=>rfl)) (hres' _ _ _),hvars' _,rfl,?_,?_⟩,?_⟩
 ·intro b off hp
  have hp':MemPlace.cell b off∈before:=by simpa using hp
  rw [hb.frozen (p:=⟨b,off,none⟩) (hlt _ hp')]
  exact hz b off hp'
 ·intro ha; simpa using hn ha
 intro p hp _; simpa using hp
end
section
variable {P:Program} {α:Type} [Flat α]
def ArrT (P:Program) (T n E:Nat):Prop:=P.underlying T=some (.array n E)/\pr P (sizeOf E)=some 1
theorem pop_ixA {T E n b o:Nat} {i:Int} {K:Value->Prop} (h:ArrT P T n E) (h0:0<=i) (h1:i<n) (k:K (.pointer (some ⟨b,o+i.toNat,none⟩))) :
  Pop P (Instr.indexAt T (.pointer (some ⟨b,o,none⟩)) (.int .i64 i)) K:=by
 refine ⟨_,?_,k⟩
 unfold Instr.indexAt
 have e1:pr P (underlying T)=some (.array n E):=pr_underlying h.1
 have e3:pr P (Instr.sureAddr (.pointer (some (⟨b,o,none⟩:Addr))))=some ⟨b,o,none⟩:=rfl
 simp only [asIntOf,pr_bind,e1,Option.bind_some,pr_pure,e3]
 simp only [if_pos (show 0<=i/\i<(n:Int) from ⟨h0,h1⟩),pr_bind,h.2,Option.bind_some,pr_pure,add_none,Nat.mul_one]
end
theorem run_own {α:Type} [Flat α] {P:Program} {w w0:World} {A:Nat->Prop} {L:List HP} {xs:List α} {T:Nat} {v p:Value} {i:Nat} {x:α} (hs:St w0 A (ownL v xs::L) w) (ht:oneFact P T=some (Flat.agg α,Flat.sz α)) (hp:OwnAt α v i p) (hx:xs[i]? = some x) :
  (Instr.loadAt T p).run P w = .ok (Flat.val x) w:=by
 obtain ⟨F,h,_⟩:=hs.head
 obtain ⟨b,cap,rest,hv,hb,hl,_⟩:=own_split h (List.getElem?_eq_some_iff.1 hx).1
 obtain ⟨b',n,c,hv',rfl⟩:=hp
 rw [hv] at hv'
 simp only [Value.slice.injEq,Option.some.injEq,Addr.mk.injEq] at hv'
 obtain ⟨⟨rfl,_,_⟩,_,_⟩:=hv'
 refine run_at (S:=λ _=>True) ht ⟨b,i * Flat.sz α,rfl,trivial,λ j c hj=>hb.cell ?_⟩
 have:=flat_get hx hj
 rw [List.getElem?_append_left (List.getElem?_eq_some_iff.1 this).1]; exact this
class Deep (α:Type) (σ:outParam Type) [Flat σ] where
 dr:World->σ->α->Prop
 ext:∀ {w w':World} {s:σ} {x:α},dr w s x->Ext w w'->dr w' s x
def DL {α σ:Type} [Flat σ] [Deep α σ] (w:World) (v:Value) (xs:List α):Prop:=
 ∃ ts:List σ,RdL (λ _=>True) w v ts/\ts.length=xs.length/\∀ (i:Nat) (t:σ) (x:α),ts[i]? = some t->xs[i]? = some x->Deep.dr w t x
section
variable {P:Program} {α σ:Type} [Flat σ] [Deep α σ] {w w' w0:World} {v:Value} {A:Nat->Prop} {L:List HP}
theorem DL.ext {xs:List α} (h:DL w v xs) (e:Ext w w'):DL w' v xs:=by
 obtain ⟨ts,h1,h2,h3⟩:=h; exact ⟨ts,h1.ext e,h2,λ i t x a b=>Deep.ext (h3 i t x a b) e⟩
theorem DL.nil (w:World):DL w (.slice none 0 0) ([]:List α):=⟨[],RdL.nil _ _,rfl,λ i t x h=>by simp at h⟩
theorem DL.isSV {xs:List α} (h:DL w v xs):∃ s:SV,v=Flat.val s:=by obtain ⟨_,h,_⟩:=h; exact h.isSV
instance:Deep (List α) SV where
 dr w s xs:=DL w (Flat.val s) xs
 ext h e:=DL.ext h e
def frz (Φ:World->Prop):HP where
 p w F:=(∀ w':World,(∀ b,F b->w'.heap[b]? = w.heap[b]?)->Φ w')/\∀ b,F b->b<w.heap.size
 loc w w' F h hh:=⟨λ w2 h2=>h.1 w2 λ b hb=>(h2 b hb).trans (hh b hb),λ b hb=>by
  have:=h.2 b hb
  have h3:=hh b hb
  rw [Array.getElem?_eq_getElem this] at h3
  exact (Array.getElem?_eq_some_iff.1 h3).1⟩
 lt w F b h hb:=h.2 b hb
theorem frz.now {Φ:World->Prop} {F:Nat->Prop} (h:(frz Φ).p w F):Φ w:=h.1 w λ _ _=>rfl
theorem St.frz {Φ:World->Prop} (hs:St w0 A (frz Φ::L) w):Φ w:=by obtain ⟨F,h,_⟩:=hs.head; exact frz.now h
theorem St.frzMono {Φ Ψ:World->Prop} (hs:St w0 A (Fw.frz Φ::L) w) (hk:∀ w,Φ w->Ψ w):St w0 A (Fw.frz Ψ::L) w:=
 hs.turn λ F hF=>⟨F,⟨λ w' h=>hk _ (hF.1 w' h),hF.2⟩,λ b hb=>.inl hb,Chg.refl _ _⟩
theorem St.frzAnd {Φ Ψ:World->Prop} (hs:St w0 A (Fw.frz Φ::Fw.frz Ψ::L) w):St w0 A (Fw.frz (λ w=>Φ w/\Ψ w)::L) w:=by
 have h:=St.join hs
 refine h.turn λ F hF=>?_
 obtain ⟨F1,F2,h1,h2,h3,h4⟩:=hF
 refine ⟨F,⟨λ w' hh=>⟨h1.1 w' λ b hb=>hh b ((h4 b).2 (.inl hb)),h2.1 w' λ b hb=>hh b ((h4 b).2 (.inr hb))⟩,λ b hb=>?_⟩,λ b hb=>.inl hb,Chg.refl _ _⟩
 rcases (h4 b).1 hb with hb | hb
 ·exact h1.2 b hb
 exact h2.2 b hb
theorem St.frzNil {Φ:World->Prop} (hs:St w0 A L w) (h:∀ w,Φ w):St w0 A (Fw.frz Φ::L) w:=
 hs.new (Ext.refl w) (F:=none1) ⟨λ w' _=>h w',λ b hb=>hb.elim⟩ λ _ h=>h.elim
theorem St.freeze {xs:List σ} (hs:St w0 A (ownL v xs::L) w):St w0 A (Fw.frz (λ w=>RdL (λ _=>True) w v xs)::L) w:=
 hs.turn λ F hF=>⟨F,⟨λ w' h=>(ownL.rd ((ownL v xs).loc _ _ _ hF h)).mono λ _ _=>trivial,λ b hb=>(ownL v xs).lt _ _ _ hF hb⟩,λ b hb=>.inl hb,Chg.refl _ _⟩
theorem St.freezeBlk {b:Nat} {cs:List Value} (hs:St w0 A (blk b cs::L) w):St w0 A (Fw.frz (λ w=>Blk w b cs)::L) w:=
 hs.turn λ F hF=>⟨F,⟨λ w' h=>((blk b cs).loc _ _ _ hF h).1,λ k hk=>(blk b cs).lt _ _ _ hF hk⟩,λ b hb=>.inl hb,Chg.refl _ _⟩
def drs (ts:List σ) (xs:List α) (w:World):Prop:=ts.length=xs.length/\∀ (i:Nat) (t:σ) (x:α),ts[i]? = some t->xs[i]? = some x->Deep.dr w t x
theorem drs.nil:drs ([]:List σ) ([]:List α) w:=⟨rfl,λ i t x h=>by simp at h⟩
theorem drs.snoc {ts:List σ} {xs:List α} {t:σ} {x:α} (h:drs ts xs w) (ht:Deep.dr w t x):drs (ts++[t]) (xs++[x]) w:=by
 refine ⟨by rw [List.length_append,List.length_append,h.1]; rfl,λ i t' x' h1 h2=>?_⟩
 rcases Nat.lt_or_ge i ts.length with hi | hi
 ·rw [List.getElem?_append_left hi] at h1
  rw [List.getElem?_append_left (by rw [<- h.1]; exact hi)] at h2
  exact h.2 i t' x' h1 h2
 have hlt:=(List.getElem?_eq_some_iff.1 h1).1
 rw [List.length_append,List.length_singleton] at hlt
 obtain rfl:i=ts.length:=by omega
 rw [List.getElem?_append_right (Nat.le_refl _),Nat.sub_self] at h1
 rw [List.getElem?_append_right (by rw [h.1]; exact Nat.le_refl _),h.1,Nat.sub_self] at h2
 rw [<- Option.some.inj h1,<- Option.some.inj h2]; exact ht
theorem drs.append {ts us:List σ} {xs ys:List α} (h:drs ts xs w) (g:drs us ys w):drs (ts++us) (xs++ys) w:=by
 refine ⟨by rw [List.length_append,List.length_append,h.1,g.1],λ i t' x' h1 h2=>?_⟩
 rcases Nat.lt_or_ge i ts.length with hi | hi
 ·rw [List.getElem?_append_left hi] at h1
  rw [List.getElem?_append_left (by rw [<- h.1]; exact hi)] at h2
  exact h.2 i t' x' h1 h2
 rw [List.getElem?_append_right hi] at h1
 rw [List.getElem?_append_right (by rw [<- h.1]; exact hi),<- h.1] at h2
 exact g.2 _ t' x' h1 h2
theorem drs.ext {ts:List σ} {xs:List α} (h:drs ts xs w) (e:Ext w w'):drs ts xs w':=⟨h.1,λ i t x a b=>Deep.ext (h.2 i t x a b) e⟩
theorem DL.of {ts:List σ} {xs:List α} (h:RdL (λ _=>True) w v ts) (g:drs ts xs w):DL w v xs:=⟨ts,h,g.1,g.2⟩
theorem DL.open {xs:List α} (h:DL w v xs):∃ ts:List σ,RdL (λ _=>True) w v ts/\drs ts xs w:=by obtain ⟨ts,h1,h2,h3⟩:=h; exact ⟨ts,h1,h2,h3⟩
theorem drs.take {ts:List σ} {xs:List α} (h:drs ts xs w) (k:Nat):drs (ts.take k) (xs.take k) w:=by
 refine ⟨by rw [List.length_take,List.length_take,h.1],λ i t x a b=>?_⟩
 rw [List.getElem?_take] at a b
 split at a
 ·rename_i hi; rw [if_pos hi] at b; exact h.2 i t x a b
 cases a
theorem drs.drop {ts:List σ} {xs:List α} (h:drs ts xs w) (k:Nat):drs (ts.drop k) (xs.drop k) w:=by
 refine ⟨by rw [List.length_drop,List.length_drop,h.1],λ i t x a b=>?_⟩
 rw [List.getElem?_drop] at a b
 exact h.2 _ t x a b
end
section
variable {α:Type} [Flat α]
abbrev plainDeep:Deep α α:=⟨λ _ s x=>s=x,λ h _=>h⟩
theorem drs_plain [D:Deep α α] (hD:∀ w s x,D.dr w s x↔s=x) {w:World} {ts xs:List α}:drs ts xs w↔ts=xs:=by
 constructor
 ·rintro ⟨h1,h2⟩
  refine List.ext_getElem? λ i=>?_
  rcases Nat.lt_or_ge i ts.length with hi | hi
  ·have a:=List.getElem?_eq_getElem hi
   have b:=List.getElem?_eq_getElem (l:=xs) (by rw [<- h1]; exact hi)
   rw [a,b,(hD _ _ _).1 (h2 i _ _ a b)]
  rw [List.getElem?_eq_none hi,List.getElem?_eq_none (by rw [<- h1]; exact hi)]
 rintro rfl
 exact ⟨rfl,λ i t x a b=>(hD _ _ _).2 (Option.some.inj (a.symm.trans b))⟩
end
instance:Deep Int Int:=plainDeep
instance:Deep Bool Bool:=plainDeep
instance:Deep ByteArray ByteArray:=plainDeep
structure RdW (P:Program) (w:World) (t:TypeId) (α:Type) [Flat α] (φ:α->Prop):Prop where
 cells:P.cellsOf t=Flat.sz α
 rd:∀ {H:Type} (enc:TypeId × Value->H) (base:Nat) (held:Bool) (fuel:Nat) (cs:List Value) (x:DataW H × List MemPlace),
  DataW.trod enc P w base (λ _=>true) held fuel t cs=some x->∃ a:α,cs=Flat.enc a/\φ a
def RdD (P:Program) (t:TypeId) (α:Type) {σ:Type} [Flat σ] [Deep α σ] (φ:α->Prop):Prop:=∀ w,RdW P w t σ (λ s=>∃ a:α,Deep.dr w s a/\φ a)
theorem RdT.deep {P:Program} {t:TypeId} {α:Type} [Flat α] [D:Deep α α] {φ:α->Prop} (h:RdT P t α φ) (hD:∀ w (x:α),D.dr w x x):RdD P t α φ:=
 λ w=>⟨h.cells,λ enc base held fuel cs x hx=>by
  obtain ⟨a,h1,h2⟩:=h.rd enc w base _ held fuel cs x hx; exact ⟨a,h1,a,hD w a,h2⟩⟩
section
variable {H:Type} {enc:TypeId × Value->H} {P:Program} {w:World} {base:Nat} {held:Bool}
theorem trod_slW {α:Type} [Flat α] {φ:α->Prop} {t e:TypeId} {fuel:Nat} {cs:List Value} {x:DataW H × List MemPlace} (ht:P.underlying t=some (.slice e)) (hr:RdW P w e α φ)
  (h:DataW.trod enc P w base (λ _=>true) held fuel t cs=some x):∃ v,cs=[v]/\∃ xs:List α,RdL (λ b=>b<w.heap.size) w v xs/\∀ x∈xs,φ x:=by
 rcases DataW.trod_slice ht h with ⟨rfl,_⟩ | ⟨a,len,cap,elems,rest,n,_,rfl,_,hb,hl,hm,hlen,hel,hsp,_⟩
 ·exact ⟨_,rfl,[],RdL.nil _ _,by simp⟩
 refine ⟨_,rfl,?_⟩
 have get:∀ i,i<len->∃ x:α,φ x/\w.cells? base (a.add (i * P.cellsOf e)) (P.cellsOf e)=some (Flat.enc x):=by
  intro i hi
  have h1:=hel i hi
  rw [List.getElem?_eq_getElem (by omega)] at h1
  obtain ⟨cs',h2,h3⟩:=Option.bind_eq_some_iff.1 h1
  obtain ⟨x,rfl,hx⟩:=hr.rd enc base held n cs' _ h3
  exact ⟨x,hx,h2⟩
 obtain ⟨xs,hxl,hxs⟩:=list_of len get
 have hsz:=hr.cells
 have hpos:0<Flat.sz α:=Flat.pos
 have first:∀ (c:Nat) (cs':List Value),w.cells? base (a.add (c * P.cellsOf e)) (P.cellsOf e)=some cs'->c=0->a.spot=none:=by
  intro c cs' h1 h0
  subst h0
  have:=World.cells?_some h1
  have h2:=this.2.2 0 (by rw [hsz]; exact hpos)
  rw [Nat.zero_mul] at h2
  have h3:w.cell? a=cs'[0]?:=by simpa [Addr.add] using h2
  rw [List.getElem?_eq_getElem (by rw [this.2.1,hsz]; exact hpos)] at h3
  unfold World.cell? at h3
  split at h3
  ·split at h3
   ·cases h3
   ·rename_i hs; simpa using hs
  ·cases h3
 refine ⟨xs,⟨some a,cap,by rw [hxl],by omega,?_⟩,λ x hx=>?_⟩
 ·by_cases hc0:cap=0
  ·exact .inl ⟨List.length_eq_zero_iff.1 (by omega),hc0⟩
  right
  have hspot:a.spot=none:=by
   by_cases h0:0<len
   ·obtain ⟨x,_,hx⟩:=get 0 h0
    exact first 0 _ hx rfl
   ·obtain ⟨h1,h2⟩:=hsp rfl
    have h3:=h2 0 (by omega)
    rw [List.getElem?_eq_getElem (by omega)] at h3
    obtain ⟨cs',h4,_⟩:=Option.bind_eq_some_iff.1 h3
    exact first (len+0) _ h4 (by omega)
  have hcell:∀ j c,(flat xs)[j]? = some c->Cell w a.block (a.off+j) c:=by
   intro j c hj
   obtain ⟨i,r,x,hx,hcr,rfl⟩:=flat_index hj
   have h1:=(World.cells?_some (hxs i x hx).2).2.2 r (by rw [hsz]; have:=(List.getElem?_eq_some_iff.1 hcr).1; rwa [Flat.len] at this)
   rw [hcr,hsz] at h1
   obtain ⟨b,o,s⟩:=a
   simp only at hspot
   subst hspot
   unfold Cell
   rw [<- h1,add_none,add_none,Nat.add_assoc]
  refine ⟨a.block,a.off,by obtain ⟨b,o,s⟩:=a; simp only at hspot; subst hspot; rfl,λ hne=>?_,hcell⟩
  obtain ⟨y,ys,rfl⟩:=List.exists_cons_of_ne_nil hne
  have h0:(flat (y::ys))[0]? = some ((Flat.enc y)[0]'(by rw [Flat.len]; exact hpos)):=by
   rw [flat_cons,List.getElem?_append_left (by rw [Flat.len]; exact hpos),List.getElem?_eq_getElem]
  exact (hcell 0 _ h0).lt
 obtain ⟨i,hi⟩:=List.getElem?_of_mem hx
 exact (hxs i x hi).1
theorem drs_of {α σ:Type} [Flat σ] [Deep α σ] {φ:α->Prop}:∀ (ts:List σ),(∀ s∈ts,∃ a:α,Deep.dr w s a/\φ a)->∃ xs:List α,drs ts xs w/\∀ x∈xs,φ x
 | [],_=>⟨[],drs.nil,by simp⟩
 | t::ts,h=>by
  obtain ⟨a,h1,h2⟩:=h t (by simp)
  obtain ⟨xs,h3,h4⟩:=drs_of ts λ s hs=>h s (List.mem_cons_of_mem _ hs)
  refine ⟨a::xs,?_,λ x hx=>?_⟩
  ·have:drs ([]++[t]) ([]++[a]) w:=drs.nil.snoc h1
   exact this.append h3
  ·rcases List.mem_cons.1 hx with rfl | hx
   ·exact h2
   ·exact h4 x hx
theorem RdD.slice {α σ:Type} [Flat σ] [Deep α σ] {φ:α->Prop} {t e:TypeId} (ht:P.underlying t=some (.slice e)) (hc:P.cellsOf t=1) (hr:RdD P e α φ):RdD P t (List α) (λ xs=>∀ x∈xs,φ x):=
 λ w=>⟨hc,λ enc base held fuel cs x hx=>by
  obtain ⟨v,rfl,ts,h1,h2⟩:=trod_slW ht (hr w) hx
  obtain ⟨xs,h3,h4⟩:=drs_of ts h2
  have h1':RdL (λ _=>True) w v ts:=h1.mono λ _ _=>trivial
  obtain ⟨s,rfl⟩:=h1'.isSV
  exact ⟨s,rfl,xs,DL.of h1' h3,h4⟩⟩
theorem open_dl {α σ:Type} [Flat σ] [Deep α σ] {φ:α->Prop} {t e:TypeId} {r:Reach} {b0:Nat} {v:Value} {d:DataW H} {ps:List MemPlace} (ht:P.underlying t=some (.slice e)) (hr:RdD P e α φ)
  (hval:Value.okWide P w r b0 t v) (hd:DataW.Trod enc P w base (λ _=>true) held t v d ps):∃ xs:List α,DL w v xs/\∀ x∈xs,φ x:=by
 obtain ⟨fuel,hf⟩:=hd
 obtain ⟨u,hu,ts,h1,h2⟩:=trod_slW ht (hr w) hf
 have hv:v=u:=by
  have h1:=hval
  unfold Value.okWide at h1
  rw [ht] at h1
  cases v with
  | slice a n c=>exact (List.cons.inj (show [Value.slice a n c]=[u] from hu)).1
  | _=>
   have h2:Cell.okWide P w r b0 t _:=h1
   unfold Cell.okWide at h2
   rw [ht] at h2
   simp only [Cell.ok,ht] at h2
 subst hv
 obtain ⟨xs,h3,h4⟩:=drs_of ts h2
 exact ⟨xs,DL.of (h1.mono λ _ _=>trivial) h3,h4⟩
theorem open_dst {α σ:Type} [Flat σ] [Deep α σ] {φ:α->Prop} {t:TypeId} {fs:Array Field} {r:Reach} {b0:Nat} {v:Value} {d:DataW H} {ps:List MemPlace} (ht:P.underlying t=some (.struct fs)) (ha:Flat.agg σ=true)
  (hr:RdD P t α φ) (hval:Value.okWide P w r b0 t v) (hd:DataW.Trod enc P w base (λ _=>true) held t v d ps):∃ (s:σ) (x:α),v=Flat.val s/\Deep.dr w s x/\φ x:=by
 obtain ⟨fuel,hf⟩:=hd
 obtain ⟨s,hs,x,h1,h2⟩:=(hr w).rd enc base held fuel _ _ hf
 unfold Value.okWide at hval
 rw [ht] at hval
 obtain ⟨cs,rfl,_⟩:=hval
 refine ⟨s,x,?_,h1,h2⟩
 rw [Flat.vagg ha,<- hs]
 simp [Value.cells]
end
def w64 (x:Int):Int:=IntKind.i64.wrap x
theorem w64_in {x:Int} (h : -9223372036854775808<=x/\x<=9223372036854775807):w64 x=x:=IntWalk.i64_in _ h
section
variable {P:Program} {T:Nat} {cx cy:Bool} {a b:Int} {K:Value->Prop}
theorem pop_addW (k:K (.int .i64 (w64 (a+b)))):Pop P (binS .add T cx cy (.int .i64 a) (.int .i64 b)) K:=⟨_,rfl,k⟩
theorem pop_subW (k:K (.int .i64 (w64 (a - b)))):Pop P (binS .sub T cx cy (.int .i64 a) (.int .i64 b)) K:=⟨_,rfl,k⟩
theorem pop_mulW (k:K (.int .i64 (w64 (a * b)))):Pop P (binS .mul T cx cy (.int .i64 a) (.int .i64 b)) K:=⟨_,rfl,k⟩
theorem pop_negW (k:K (.int .i64 (w64 (0 - a)))):Pop P (Op.unary .neg (.int .i64 a)) K:=⟨_,rfl,k⟩
theorem pop_quoW (h:b≠0) (k:K (.int .i64 (w64 (a.tdiv b)))):Pop P (binS .quo T cx cy (.int .i64 a) (.int .i64 b)) K:=by
 refine ⟨_,?_,k⟩
 show pr P (Op.intDiv .quo .i64 a b)=_
 unfold Op.intDiv
 rw [if_neg h]; rfl
theorem pop_remW (h:b≠0) (k:K (.int .i64 (a.tmod b))):Pop P (binS .rem T cx cy (.int .i64 a) (.int .i64 b)) K:=by
 refine ⟨_,?_,k⟩
 show pr P (Op.intDiv .rem .i64 a b)=_
 unfold Op.intDiv
 rw [if_neg h]; rfl
end
theorem pop_ownCut {α:Type} [Flat α] {P:Program} {w w0:World} {A:Nat->Prop} {L:List HP} {xs:List α} {T E by':Nat} {z:Option Nat} {v:Value} {i:Int} {K:Value->Prop} (ht:slFact P T=some (E,Flat.sz α,by',z))
  (hs:St w0 A (ownL v xs::L) w) (h0:0<=i) (h1:i<=xs.length) (k:∀ v',St w0 A (ownL v' (xs.take i.toNat)::L) w->K v'):Pop P (Instr.sliceAt T v none (some (.int .i64 i)) none) K:=by
 obtain ⟨a,cap,hv,hcap,_⟩:=hs.rd'
 refine ⟨_,(by rw [hv]; exact pr_cut ht (pr_bounds (.inl ⟨rfl,rfl⟩) (.inr ⟨i,rfl,h0,rfl⟩) (Nat.zero_le _) (by omega))),k _ ?_⟩
 refine hs.turn λ F hF=>?_
 rcases hF with ⟨hv0,hx,hno⟩ | ⟨b,cap',rest,hv',hb,hl,hF⟩
 ·rw [hv0] at hv
  subst hx
  simp only [Value.slice.injEq] at hv
  obtain ⟨rfl,_,rfl⟩:=hv
  have hi:i.toNat=0:=by simp at h1; omega
  refine ⟨F,.inl ⟨?_,by simp,hno⟩,λ b hb=>.inl hb,Chg.refl _ _⟩
  rw [hi]; rfl
 rw [hv'] at hv
 simp only [Value.slice.injEq] at hv
 obtain ⟨rfl,_,rfl⟩:=hv
 refine ⟨F,.inr ⟨b,cap',flat (xs.drop i.toNat)++rest,?_,?_,?_,hF⟩,λ b hb=>.inl hb,Chg.refl _ _⟩
 ·have hl2:(xs.take i.toNat).length=i.toNat:=by rw [List.length_take]; omega
  rw [hl2]
  simp [add_none]
 ·rw [<- List.append_assoc,<- flat_append,List.take_append_drop]; exact hb
 exact ⟨Nat.le_trans (by rw [List.length_take]; omega) hl.1,by rw [<- List.append_assoc,<- flat_append,List.take_append_drop]; exact hl.2⟩
section
variable {P:Program} {w w':World} {v:Value}
theorem DL.flat {α:Type} [Flat α] [D:Deep α α] {xs:List α} (h:DL w v xs) (hD:∀ w s x,D.dr w s x↔s=x:=by intros; exact Iff.rfl):RdL (λ _=>True) w v xs:=by
 obtain ⟨ts,h1,h2⟩:=h.open
 rw [(drs_plain hD).1 h2] at h1; exact h1
theorem DL.unflat {α:Type} [Flat α] [D:Deep α α] {xs:List α} (h:RdL (λ _=>True) w v xs) (hD:∀ w s x,D.dr w s x↔s=x:=by intros; exact Iff.rfl):DL w v xs:=DL.of h ((drs_plain hD).2 rfl)
theorem pop_cutW {α:Type} [Flat α] {S:Nat->Prop} {xs:List α} {T E by':Nat} {z:Option Nat} {lo hi:Option Value} {l h:Nat} {K:Value->Prop} (ht:slFact P T=some (E,Flat.sz α,by',z)) (hr:RdL S w v xs)
  (hl:lo=none/\l=0\/∃ i:Int,lo=some (.int .i64 i)/\0<=i/\l=i.toNat) (hh:hi=none/\h=xs.length\/∃ i:Int,hi=some (.int .i64 i)/\0<=i/\h=i.toNat)
  (h1:l<=h) (h2:h<=xs.length) (k:∀ v',(∀ w',RdL S w' v xs->RdL S w' v' ((xs.take h).drop l))->K v'):Pop P (Instr.sliceAt T v lo hi none) K:=by
 obtain ⟨a,cap,rfl,hcap,h3⟩:=hr
 exact ⟨_,pr_cut ht (pr_bounds hl hh h1 (by omega)),k _ λ w' hw=>hw.cut rfl h1 h2⟩
theorem pop_cutLH {α:Type} [Flat α] {S:Nat->Prop} {xs:List α} {T E by':Nat} {z:Option Nat} {i j:Int} {K:Value->Prop} (ht:slFact P T=some (E,Flat.sz α,by',z)) (hr:RdL S w v xs)
  (h0:0<=i) (h1:i<=j) (h2:j<=xs.length) (k:∀ v',(∀ w',RdL S w' v xs->RdL S w' v' ((xs.take j.toNat).drop i.toNat))->K v'):Pop P (Instr.sliceAt T v (some (.int .i64 i)) (some (.int .i64 j)) none) K:=
 pop_cutW ht hr (.inr ⟨i,rfl,h0,rfl⟩) (.inr ⟨j,rfl,by omega,rfl⟩) (by omega) (by omega) k
theorem DL.cut {α σ:Type} [Flat σ] [Deep α σ] {xs:List α} {ts:List σ} {v':Value} {l h:Nat} (hq:∀ w',RdL (λ _=>True) w' v ts->RdL (λ _=>True) w' v' ((ts.take h).drop l)) (hR:RdL (λ _=>True) w v ts) (hD:drs ts xs w):DL w v' ((xs.take h).drop l):=
 DL.of (hq w hR) ((hD.take h).drop l)
theorem toList_iff {a b:ByteArray}:(a.toList == b.toList)=decide (a=b):=by
 rw [ByteArray.toList_eq,ByteArray.toList_eq,Bool.eq_iff_iff,beq_iff_eq,decide_eq_true_eq]
 constructor
 ·intro h
  obtain ⟨a⟩:=a
  obtain ⟨b⟩:=b
  simp only [ByteArray.mk.injEq]
  exact Array.toList_inj.1 h
 rintro rfl; rfl
theorem pop_streq {T:Nat} {cx cy:Bool} {a b:ByteArray} {K:Value->Prop} (k:K (.bool (decide (a=b)))):Pop P (binS .eql T cx cy (.string a) (.string b)) K:=by
 rw [<- toList_iff] at k
 exact ⟨_,rfl,k⟩
theorem pop_strne {T:Nat} {cx cy:Bool} {a b:ByteArray} {K:Value->Prop} (k:K (.bool (decide (¬ a=b)))):Pop P (binS .neq T cx cy (.string a) (.string b)) K:=by
 refine ⟨_,rfl,?_⟩
 have:(!(a.toList == b.toList))=decide (¬ a=b):=by rw [toList_iff]; by_cases h:a=b <;> simp [h]
 rw [this]; exact k
end
def bts (s:ByteArray):List UInt8:=s.data.toList
theorem bts_len (s:ByteArray):(bts s).length=s.size:=by unfold bts; rw [Array.length_toList]; rfl
theorem bts_get (s:ByteArray) (i:Nat):(bts s)[i]? = if h:i<s.size then some (s[i]'h) else none:=by
 unfold bts
 by_cases h:i<s.size
 ·rw [dif_pos h,Array.getElem?_toList]
  exact Array.getElem?_eq_getElem h
 rw [dif_neg h,List.getElem?_eq_none]
 rw [Array.length_toList]; exact Nat.le_of_not_lt h
section
variable {P:Program} {T R:Nat} {cx cy:Bool} {a b:Int} {K:Value->Prop}
theorem pop_slen {s:ByteArray} (hT:P.underlying T=some .string) (k:K (.int .i64 (s.size:Int))):Pop P (Builtin.len_ #[T] R [Value.string s].toArray) K:=by
 refine ⟨_,?_,k⟩
 show pr P (do
  match <- underlying T,Value.string s with
  | .string,.string s=>pure (goInt s.size)
  | .array n _,_=>pure (goInt n)
  | .pointer arr,_=>
   let .array n _ <- underlying arr | stuck "len: pointer to array expected"
   pure (goInt n)
  | .slice _,.slice _ n _=>pure (goInt n)
  | .map _ _,.map none | .chan _ _,.chan none=>pure (goInt 0)
  | .map _ _,.map (some r)=>
   let .map entries _ <- getObj r | stuck "len: map expected"
   pure (goInt entries.size)
  | .chan _ _,.chan (some r)=>
   let .chan _ buf _ _ _ timer <- getObj r | stuck "len: channel expected"
   pure (goInt (if timer then 0 else buf.size))
  | _, _ => stuck "len: string, array, pointer to array, slice, map or channel expected") = _
 rw [pr_bind,pr_underlying hT]; rfl
theorem pop_six {s:ByteArray} {i:Int} {e:UInt8} (hT:P.underlying T=some .string) (h0:0<=i) (he:(bts s)[i.toNat]? = some e) (k:K (.int .u8 (e.toNat:Int))):Pop P (Instr.index T (.string s) (.int .i64 i)) K:=by
 refine ⟨_,?_,k⟩
 rw [bts_get] at he
 have hi:i.toNat<s.size:=by
  by_cases h:i.toNat<s.size
  ·exact h
  ·rw [dif_neg h] at he; cases he
 rw [dif_pos hi] at he
 have h3:(if 0<=i then s[i.toNat]? else none)=some e:=by rw [if_pos h0,ByteArray.getElem?_lt' s _ hi,<- he]
 unfold Instr.index
 simp only [asIntOf,pr_bind,pr_underlying hT,Option.bind_some,pr_pure,h3]
theorem pop_scutHi {s:ByteArray} {i:Int} (hT:P.underlying T=some .string) (h0:0<=i) (h1:i<=s.size) (k:K (.string (s.extract 0 i.toNat))):Pop P (Instr.sliceAt T (.string s) none (some (.int .i64 i)) none) K:=by
 refine ⟨_,?_,k⟩
 unfold Instr.sliceAt
 rw [pr_bind,pr_underlying hT]
 simp only [Option.bind_some]
 unfold Instr.slice
 rw [pr_bind,pr_underlying hT]
 simp only [Option.bind_some]
 rw [if_neg (by decide)]
 have hb:pr P (Instr.sliceBounds false s.size s.size none (some (.int .i64 i)) none)=some (0,i.toNat,s.size):=by
  simp only [Instr.sliceBounds,pr_bind,pr_pure,Option.bind_some]
  rw [pr_bound h0 h1]; rfl
 rw [pr_bind,hb]; rfl
theorem pop_leqK (k:K (.bool (decide (a<=b)))):Pop P (binS .leq T cx cy (.int .u8 a) (.int .u8 b)) K:=⟨_,rfl,k⟩
theorem pop_geqK (k:K (.bool (decide (b<=a)))):Pop P (binS .geq T cx cy (.int .u8 a) (.int .u8 b)) K:=⟨_,rfl,k⟩
theorem pop_eqlK (k:K (.bool (decide (a=b)))):Pop P (binS .eql T cx cy (.int .u8 a) (.int .u8 b)) K:=⟨_,rfl,k⟩
theorem pop_max3 {t:Array TypeId} {R:TypeId} {c:Int} (k:K (.int .i64 (max (max a b) c))):Pop P (Builtin.max_ t R [.int .i64 a,.int .i64 b,.int .i64 c].toArray) K:=by
 refine ⟨_,?_,k⟩
 show pr P (do Builtin.max2 (<- Builtin.max2 (.int .i64 a) (.int .i64 b)) (.int .i64 c))=_
 have h:∀ x y:Int,pr P (Builtin.max2 (.int .i64 x) (.int .i64 y))=some (.int .i64 (max x y)):=by
  intro x y
  unfold Builtin.max2
  by_cases h:x<y
  ·simp [h,pr_pure]; omega
  ·simp [h,pr_pure]; omega
 rw [pr_bind,h]
 exact h _ _
end
def ownD {α σ:Type} [Flat σ] [Deep α σ] (v:Value) (xs:List α):HP:=exH λ ts:List σ=>sep (ownL v ts) (frz (drs ts xs))
section
variable {P:Program} {α σ:Type} [Flat σ] [D:Deep α σ] {w w' w0:World} {v src:Value} {A:Nat->Prop} {L:List HP} {xs ys:List α}
theorem St.dOpen (hs:St w0 A (ownD v xs::L) w):∃ ts:List σ,St w0 A (ownL v ts::Fw.frz (drs ts xs)::L) w:=by
 obtain ⟨ts,h⟩:=hs.openEx; exact ⟨ts,h.split⟩
theorem St.dShut {ts:List σ} (hs:St w0 A (ownL v ts::Fw.frz (drs ts xs)::L) w):St w0 A (ownD v xs::L) w:=
 St.shutEx (H:=λ ts:List σ=>sep (ownL v ts) (Fw.frz (drs ts xs))) ts (St.join hs)
theorem St.dLen {ts:List σ} (hs:St w0 A (ownL v ts::Fw.frz (drs ts xs)::L) w):ts.length=xs.length:=(hs.p1.frz).1
theorem St.dNil (hs:St w0 A L w):St w0 A (ownD (.slice none 0 0) ([]:List α)::L) w:=
 St.dShut (ts:=[]) ((hs.frzNil λ _=>drs.nil).ownNil)
theorem St.dNew (hs:St w0 A (ownL v ([]:List σ)::L) w):St w0 A (ownD v ([]:List α)::L) w:=
 St.dShut (ts:=[]) (hs.frzNil (Φ:=drs ([]:List σ) ([]:List α)) λ _=>drs.nil).p1
theorem St.dOne {s:σ} {x:α} (hs:St w0 A (ownL v [s]::Fw.frz (λ w=>Deep.dr w s x)::L) w):St w0 A (ownD v [x]::L) w:=by
 refine St.dShut (ts:=[s]) ?_
 refine ((hs.p1.frzMono (Ψ:=drs [s] [x]) λ w h=>?_)).p1
 exact (drs.nil (w:=w)).snoc h
theorem St.dCat {ts us:List σ} (hs:St w0 A (ownL v (ts++us)::Fw.frz (drs ts xs)::Fw.frz (drs us ys)::L) w):St w0 A (ownD v (xs++ys)::L) w:=by
 have h1:=(hs.p1:St w0 A (Fw.frz (drs ts xs)::ownL v (ts++us)::Fw.frz (drs us ys)::L) w)
 have h2:=h1.p2.p1
 refine St.dShut (ts:=ts++us) ?_
 exact ((h2.frzAnd).frzMono (Ψ:=drs (ts++us) (xs++ys)) λ w h=>h.1.append h.2).p1
theorem St.dFreeze (hs:St w0 A (ownD v xs::L) w):St w0 A (Fw.frz (λ w=>DL w v xs)::L) w:=by
 obtain ⟨ts,h⟩:=hs.dOpen
 exact (h.freeze.frzAnd).frzMono λ w h=>DL.of h.1 h.2
theorem St.dl (hs:St w0 A (ownD v xs::L) w):DL w v xs:=hs.dFreeze.frz
theorem St.isSVd (hs:St w0 A (ownD v xs::L) w):∃ s:SV,v=Flat.val s:=hs.dl.isSV
theorem St.enc {b:Nat} {cs cs':List Value} (hs:St w0 A (blk b cs::L) w) (h:cs=cs'):St w0 A (blk b cs'::L) w:=h▸hs
theorem eop_buildD0 {T E by':Nat} {K:Value->World->Prop} (hs:St w0 A L w) (ht:SlT P T E (Flat.sz σ) by') (k:∀ v w',St w0 A (ownD v ([]:List α)::L) w'->K v w'):Eop P (Instr.buildSlice T 0 ([]:List (Nat × Value)).toArray) w K:=
 eop_build ([]:List σ) hs ht rfl rfl (by simp) λ v w' h=>k v w' h.dNew
theorem eop_buildD1 {T E by':Nat} {s:σ} {x:α} {K:Value->World->Prop} (hs:St w0 A (Fw.frz (λ w=>Deep.dr w s x)::L) w) (ht:SlT P T E (Flat.sz σ) by') (hz:Flat.sz σ<=64) (k:∀ v w',St w0 A (ownD v [x]::L) w'->K v w') :
  Eop P (Instr.buildSlice T 1 [(0,Flat.val s)].toArray) w K:=
 eop_build [s] hs ht rfl rfl (by simp; omega) λ v w' h=>k v w' h.dOne
theorem eop_appendD {T E by' R:Nat} {K:Value->World->Prop} (hs:St w0 A (ownD v xs::ownD src ys::L) w) (ht:SlT P T E (Flat.sz σ) by')
  (hn:xs.length+ys.length<=1073741824) (hby:by'<=8192) (k:∀ v' w',St w0 A (ownD v' (xs++ys)::L) w'->K v' w'):Eop P (Builtin.append_ #[T,T] R [v,src].toArray) w K:=by
 obtain ⟨us,h1⟩:=hs.p1.dOpen
 obtain ⟨ts,h2⟩:=h1.p2.dOpen
 have e1:=h1.dLen
 have e2:=h2.dLen
 refine eop_append h2 ht h2.p2.rd' (by omega) hby λ v' w' h=>k v' w' ?_
 exact (h.p2.drop).dCat
end
instance:Flat UInt8 where
 agg:=false
 sz:=1
 enc b:=[.int .u8 b.toNat]
 val b:=.int .u8 b.toNat
 pos:=by decide
 len _:=rfl
 one a v h:=by rw [List.mem_singleton.1 h]; rfl
 vagg h:=by cases h
 vone _ _:=rfl
instance:Deep UInt8 UInt8:=plainDeep
def FnOnD {α σ:Type} [Flat σ] [Deep α σ] (P:Program) (w:World) (f:Value) (φ:α->Prop) (g:α->Bool):Prop:=∃ g0 first cap,f = .func (.func g0) (List.toArray first) (List.toArray cap)/\Plain P g0/\
 ∀ (s:σ) (x:α) w1,Ext w w1->Deep.dr w1 s x->φ x->Calls P g0 (first++[Flat.val s]++cap).toArray w1 (Ret λ v w2=>v = .bool (g x)/\Ext w1 w2)
theorem FnOnD.ext {α σ:Type} [Flat σ] [Deep α σ] {P:Program} {w w':World} {f:Value} {φ:α->Prop} {g:α->Bool} (h:FnOnD P w f φ g) (e:Ext w w'):FnOnD P w' f φ g:=by
 obtain ⟨g0,first,cap,h1,h2,h3⟩:=h; exact ⟨g0,first,cap,h1,h2,λ s x w1 e1=>h3 s x w1 (e.trans e1)⟩
theorem pop_slnil {α:Type} [Flat α] {P:Program} {S:Nat->Prop} {w:World} {T E:TypeId} {cx cy:Bool} {v:Value} {xs:List α} {K:Value->Prop} (h:P.underlying T=some (.slice E)) (hr:RdL S w v xs) (k:∀ p:Bool,(p=true->xs=[])->K (.bool p)) :
  Pop P (binS .eql T cx cy v (.slice none 0 0)) K:=by
 obtain ⟨a,cap,rfl,_,h3⟩:=hr
 have key:pr P (Op.equal T (.slice a xs.length cap) (.slice none 0 0))=some a.isNone:=by
  show pr P (Op.equalIn 10000 T (.slice a xs.length cap) (.slice none 0 0))=_
  unfold Op.equalIn
  rw [pr_bind,pr_underlying h]
  cases a <;> rfl
 refine ⟨_,?_,k a.isNone λ ha=>?_⟩
 ·show pr P (do pure (Value.bool (<- Op.equal T (.slice a xs.length cap) (.slice none 0 0))))=_
  rw [pr_map',key]; rfl
 rcases h3 with h3 | ⟨b,o,rfl,_⟩
 ·exact h3.1
 cases ha
structure Ptr where
 b:Nat
deriving DecidableEq
instance:Flat Ptr where
 agg:=false
 sz:=1
 enc p:=[.pointer (some ⟨p.b,0,none⟩)]
 val p:=.pointer (some ⟨p.b,0,none⟩)
 pos:=by decide
 len _:=rfl
 one a v h:=by rw [List.mem_singleton.1 h]; rfl
 vagg h:=by cases h
 vone _ _:=rfl
instance:Deep Ptr Ptr:=plainDeep
def rowsP {α κ:Type} (H:κ->α->HP):List κ->List α->HP
 | [],[]=>emp
 | p::ps,x::xs=>sep (H p x) (rowsP H ps xs)
 | _,_=>fact False emp
section
variable {P:Program} {α κ:Type} {H:κ->α->HP} {A:Nat->Prop} {w0 w:World} {L:List HP}
theorem rowsP_len:∀ {ps:List κ} {xs:List α} {F:Nat->Prop},(rowsP H ps xs).p w F->ps.length=xs.length
 | [],[],_,_=>rfl
 | s::ss,x::xs,F,h=>by
  obtain ⟨F1,F2,_,h2,_,_⟩:=h
  rw [List.length_cons,List.length_cons,rowsP_len h2]
 | [],_::_,_,h=>h.1.elim
 | _::_,[],_,h=>h.1.elim
theorem St.rowsPLen {ps:List κ} {xs:List α} (hs:St w0 A (rowsP H ps xs::L) w):ps.length=xs.length:=by
 obtain ⟨F,h,_⟩:=hs.head; exact rowsP_len h
theorem St.rowsPNil (hs:St w0 A L w):St w0 A (rowsP H [] []::L) w:=hs.new (Ext.refl w) (F:=none1) (λ _ h=>h) λ _ h=>h.elim
def rowsX (H:κ->α->HP) (ps:List κ) (xs:List α) (i:Nat):HP:=sep (rowsP H (ps.take i) (xs.take i)) (rowsP H (ps.drop (i+1)) (xs.drop (i+1)))
theorem rowsP_focus:∀ {ps:List κ} {xs:List α} {i:Nat} {p:κ} {x:α} {F:Nat->Prop},(rowsP H ps xs).p w F->ps[i]? = some p->xs[i]? = some x->(sep (H p x) (rowsX H ps xs i)).p w F
 | p'::ps,x'::xs,0,p,x,F,h,hp,hx=>by
  rw [List.getElem?_cons_zero] at hp hx
  obtain rfl:=Option.some.inj hp
  obtain rfl:=Option.some.inj hx
  obtain ⟨F1,F2,h1,h2,h3,h4⟩:=h
  exact ⟨F1,F2,h1,⟨none1,F2,λ _ h=>h,h2,λ _ h=>h.elim,λ b=>⟨.inr,λ h=>h.elim (λ h=>h.elim) id⟩⟩,h3,h4⟩
 | p'::ps,x'::xs,i+1,p,x,F,h,hp,hx=>by
  rw [List.getElem?_cons_succ] at hp hx
  obtain ⟨F1,F2,h1,h2,h3,h4⟩:=h
  obtain ⟨G1,G2,g1,⟨K1,K2,k1,k2,k3,k4⟩,g3,g4⟩:=rowsP_focus h2 hp hx
  refine ⟨G1,λ b=>F1 b\/G2 b,g1,⟨λ b=>F1 b\/K1 b,K2,⟨F1,K1,h1,k1,λ b hb hk=>h3 b hb ((g4 b).2 (.inr ((k4 b).2 (.inl hk)))),λ b=>Iff.rfl⟩,k2,?_,?_⟩,?_,?_⟩
  ·rintro b (hb | hb) hk
   ·exact h3 b hb ((g4 b).2 (.inr ((k4 b).2 (.inr hk))))
   ·exact k3 b hb hk
  ·intro b; show F1 b\/G2 b↔(F1 b\/K1 b)\/K2 b; rw [k4 b,or_assoc]
  ·rintro b hb (hf | hf)
   ·exact h3 b hf ((g4 b).2 (.inl hb))
   ·exact g3 b hb hf
  ·intro b; rw [h4 b,g4 b]; constructor
   ·rintro (h | h | h)
    ·exact .inr (.inl h)
    ·exact .inl h
    ·exact .inr (.inr h)
   ·rintro (h | h | h)
    ·exact .inr (.inl h)
    ·exact .inl h
    ·exact .inr (.inr h)
 | [],[],_,_,_,_,_,hp,_=>by simp at hp
 | [],_::_,_,_,_,_,h,_,_=>h.1.elim
 | _::_,[],_,_,_,_,h,_,_=>h.1.elim
theorem rowsP_put:∀ {ps:List κ} {xs:List α} {i:Nat} {p:κ} {x:α} {F:Nat->Prop},i<xs.length->ps.length=xs.length->(sep (H p x) (rowsX H ps xs i)).p w F->(rowsP H (ps.set i p) (xs.set i x)).p w F
 | p'::ps,x'::xs,0,p,x,F,_,_,h=>by
  obtain ⟨F1,F2,h1,⟨K1,K2,k1,k2,k3,k4⟩,h3,h4⟩:=h
  refine ⟨F1,F2,h1,?_,h3,h4⟩
  have e:F2=K2:=funext λ b=>propext ((k4 b).trans ⟨λ h=>h.elim (λ h=>(k1 b h).elim) id,.inr⟩)
  rw [e]; exact k2
 | p'::ps,x'::xs,i+1,p,x,F,hi,hl,h=>by
  obtain ⟨G1,G2,g1,⟨K1,K2,⟨F1,M1,f1,m1,f3,f4⟩,k2,k3,k4⟩,g3,g4⟩:=h
  refine ⟨F1,λ b=>G1 b\/(M1 b\/K2 b),f1,rowsP_put (by simpa using hi) (by simpa using hl) ⟨G1,λ b=>M1 b\/K2 b,g1,⟨M1,K2,m1,k2,λ b hb hk=>k3 b ((f4 b).2 (.inr hb)) hk,λ b=>Iff.rfl⟩,?_,λ b=>Iff.rfl⟩,?_,?_⟩
  ·rintro b hb (h | h)
   ·exact g3 b hb ((k4 b).2 (.inl ((f4 b).2 (.inr h))))
   ·exact g3 b hb ((k4 b).2 (.inr h))
  ·rintro b hb (h | h | h)
   ·exact g3 b h ((k4 b).2 (.inl ((f4 b).2 (.inl hb))))
   ·exact f3 b hb h
   ·exact k3 b ((f4 b).2 (.inl hb)) h
  ·intro b; rw [g4 b,k4 b,f4 b]; constructor
   ·rintro (h | (h | h) | h)
    ·exact .inr (.inl h)
    ·exact .inl h
    ·exact .inr (.inr (.inl h))
    ·exact .inr (.inr (.inr h))
   ·rintro (h | h | h | h)
    ·exact .inr (.inl (.inl h))
    ·exact .inl h
    ·exact .inr (.inl (.inr h))
    ·exact .inr (.inr h)
 | [],_::_,_,_,_,_,_,hl,_=>by simp at hl
 | _,[],_,_,_,_,hi,_,_=>by simp at hi
theorem set_self_get {β:Type}:∀ {ps:List β} {i:Nat} {p:β},ps[i]? = some p->ps.set i p=ps
 | [],_,_,h=>by simp at h
 | y::ps,0,p,h=>by rw [List.getElem?_cons_zero] at h; obtain rfl:=Option.some.inj h; rfl
 | y::ps,i+1,p,h=>by rw [List.getElem?_cons_succ] at h; rw [List.set_cons_succ,set_self_get h]
theorem rowsP_back {ps:List κ} {xs:List α} {i:Nat} {p:κ} {x:α} {F:Nat->Prop} (hi:i<xs.length) (hl:ps.length=xs.length) (hp:ps[i]? = some p) (h:(sep (H p x) (rowsX H ps xs i)).p w F):(rowsP H ps (xs.set i x)).p w F:=by
 have:=rowsP_put hi hl h; rwa [set_self_get hp] at this
theorem rowsP_app:∀ {ps qs:List κ} {xs ys:List α} {F:Nat->Prop},(sep (rowsP H ps xs) (rowsP H qs ys)).p w F->(rowsP H (ps++qs) (xs++ys)).p w F
 | [],qs,[],ys,F,⟨F1,F2,h1,h2,_,h4⟩=>by
  have:F=F2:=funext λ b=>propext ((h4 b).trans ⟨λ h=>h.elim (λ h=>(h1 b h).elim) id,.inr⟩)
  rw [this]; exact h2
 | p::ps,qs,x::xs,ys,F,⟨F1,F2,⟨G1,G2,g1,g2,g3,g4⟩,h2,h3,h4⟩=>by
  refine ⟨G1,λ b=>G2 b\/F2 b,g1,rowsP_app ⟨G2,F2,g2,h2,λ b hb=>h3 b ((g4 b).2 (.inr hb)),λ b=>Iff.rfl⟩,λ b hb=>?_,λ b=>by rw [h4 b,g4 b,or_assoc]⟩
  rintro (hh | hh)
  ·exact g3 b hb hh
  ·exact h3 b ((g4 b).2 (.inl hb)) hh
 | [],_,_::_,_,_,⟨_,_,h,_⟩=>h.1.elim
 | _::_,_,[],_,_,⟨_,_,h,_⟩=>h.1.elim
theorem St.focus {ps:List κ} {xs:List α} {i:Nat} {p:κ} {x:α} (hs:St w0 A (rowsP H ps xs::L) w) (hp:ps[i]? = some p) (hx:xs[i]? = some x):St w0 A (H p x::rowsX H ps xs i::L) w:=
 (hs.turn (H':=sep (H p x) (rowsX H ps xs i)) λ F hF=>⟨F,rowsP_focus hF hp hx,λ b hb=>.inl hb,Chg.refl _ _⟩).split
theorem St.unfocus {ps:List κ} {xs:List α} {i:Nat} {p:κ} {x:α} (hs:St w0 A (H p x::rowsX H ps xs i::L) w) (hi:i<xs.length) (hl:ps.length=xs.length) (hp:ps[i]? = some p):St w0 A (rowsP H ps (xs.set i x)::L) w:=
 (St.join hs).turn λ F hF=>⟨F,rowsP_back hi hl hp hF,λ b hb=>.inl hb,Chg.refl _ _⟩
theorem rowsP_snoc:∀ {ps:List κ} {xs:List α} {p:κ} {x:α} {F1 F2 F:Nat->Prop},(rowsP H ps xs).p w F1->(H p x).p w F2->(∀ b,F1 b->¬ F2 b)->(∀ b,F b↔F1 b\/F2 b)->(rowsP H (ps++[p]) (xs++[x])).p w F
 | [],[],p,x,F1,F2,F,h1,h2,_,h4=>⟨F2,F1,h2,h1,λ b _ hb1=>h1 b hb1,λ b=>by rw [h4 b]; exact ⟨λ h=>h.symm,λ h=>h.symm⟩⟩
 | s'::ss,x'::xs,p,x,F1,F2,F,h1,h2,h3,h4=>by
  obtain ⟨G1,G2,g1,g2,g3,g4⟩:=h1
  refine ⟨G1,λ b=>G2 b\/F2 b,g1,rowsP_snoc g2 h2 (λ b hb=>h3 b ((g4 b).2 (.inr hb))) (λ b=>Iff.rfl),λ b hb=>?_,λ b=>?_⟩
  ·rintro (hh | hh)
   ·exact g3 b hb hh
   ·exact h3 b ((g4 b).2 (.inl hb)) hh
  ·rw [h4 b,g4 b,or_assoc]
 | [],_::_,_,_,_,_,_,h,_,_,_=>h.1.elim
 | _::_,[],_,_,_,_,_,h,_,_,_=>h.1.elim
theorem St.rowsPAdd {ps:List κ} {xs:List α} {p:κ} {x:α} (hs:St w0 A (rowsP H ps xs::H p x::L) w):St w0 A (rowsP H (ps++[p]) (xs++[x])::L) w:=by
 refine (St.join hs).turn λ F hF=>?_
 obtain ⟨F1,F2,h1,h2,h3,h4⟩:=hF
 exact ⟨F,rowsP_snoc h1 h2 h3 h4,λ b hb=>.inl hb,Chg.refl _ _⟩
theorem St.unfocus' {ps:List κ} {xs:List α} {i:Nat} {p:κ} {x:α} (hs:St w0 A (H p x::rowsX H ps xs i::L) w) (hi:i<xs.length) (hl:ps.length=xs.length):St w0 A (rowsP H (ps.set i p) (xs.set i x)::L) w:=
 (St.join hs).turn λ F hF=>⟨F,rowsP_put hi hl hF,λ b hb=>.inl hb,Chg.refl _ _⟩
theorem St.rowsErase {ps:List κ} {xs:List α} {i:Nat} (hs:St w0 A (rowsX H ps xs i::L) w):St w0 A (rowsP H (ps.eraseIdx i) (xs.eraseIdx i)::L) w:=by
 rw [List.eraseIdx_eq_take_drop_succ,List.eraseIdx_eq_take_drop_succ]
 exact hs.turn λ F hF=>⟨F,rowsP_app hF,λ b hb=>.inl hb,Chg.refl _ _⟩
theorem St.rowP {ps:List κ} {xs:List α} {i:Nat} {p:κ} {x:α} {Φ:World->Prop} (hs:St w0 A (rowsP H ps xs::L) w) (hp:ps[i]? = some p) (hx:xs[i]? = some x) (h:∀ {w F},(H p x).p w F->Φ w):Φ w:=by
 obtain ⟨F,hF,_⟩:=(hs.focus hp hx).head; exact h hF
end
end Go.Fw
namespace Go.Proofs.YtfkgkbhbdffckaaGreatDoor
open Go.Fw
@[ext] structure TCell where
 name:ByteArray
 n:Int
 at_:Int
deriving DecidableEq
instance:Flat TCell where
 agg:=true
 sz:=3
 enc e:=[.string e.name,.int .i64 e.n,.int .i64 e.at_]
 val e:=.agg [.string e.name,.int .i64 e.n,.int .i64 e.at_].toArray
 pos:=by decide
 len _:=rfl
 one a v h:=by simp at h; rcases h with rfl | rfl | rfl <;> rfl
 vagg _ _:=rfl
 vone h:=by cases h
instance:Deep TCell TCell:=plainDeep
def TCellOk (x:TCell):Prop:=(x.name).size<=maxLen/\i64ok x.n/\i64ok x.at_
@[ext] structure TNode where
 op:Int
 n:Int
 name:ByteArray
 at_:Int
deriving DecidableEq
instance:Flat TNode where
 agg:=true
 sz:=4
 enc e:=[.int .i64 e.op,.int .i64 e.n,.string e.name,.int .i64 e.at_]
 val e:=.agg [.int .i64 e.op,.int .i64 e.n,.string e.name,.int .i64 e.at_].toArray
 pos:=by decide
 len _:=rfl
 one a v h:=by simp at h; rcases h with rfl | rfl | rfl | rfl <;> rfl
 vagg _ _:=rfl
 vone h:=by cases h
instance:Deep TNode TNode:=plainDeep
def TNodeOk (x:TNode):Prop:=i64ok x.op/\i64ok x.n/\(x.name).size<=maxLen/\i64ok x.at_
structure TStmt where
 kind:Int
 reg:ByteArray
 name:ByteArray
 e:(List TNode)
 f:(List TNode)
 n:Int
 body:Int
 els:Int
 at_:Int
deriving DecidableEq
structure TStmtV where
 kind:Int
 reg:ByteArray
 name:ByteArray
 e:SV
 f:SV
 n:Int
 body:Int
 els:Int
 at_:Int
instance:Flat TStmtV where
 agg:=true
 sz:=9
 enc e:=[.int .i64 e.kind,.string e.reg,.string e.name,.slice e.e.a e.e.n e.e.cap,.slice e.f.a e.f.n e.f.cap,.int .i64 e.n,.int .i64 e.body,.int .i64 e.els,.int .i64 e.at_]
 val e:=.agg [.int .i64 e.kind,.string e.reg,.string e.name,.slice e.e.a e.e.n e.e.cap,.slice e.f.a e.f.n e.f.cap,.int .i64 e.n,.int .i64 e.body,.int .i64 e.els,.int .i64 e.at_].toArray
 pos:=by decide
 len _:=rfl
 one a v h:=by simp at h; rcases h with rfl | rfl | rfl | rfl | rfl | rfl | rfl | rfl | rfl <;> rfl
 vagg _ _:=rfl
 vone h:=by cases h
instance:Deep TStmt TStmtV where
 dr w s x:=∃ (e_:SV) (f_:SV),s=(⟨x.kind,x.reg,x.name,e_,f_,x.n,x.body,x.els,x.at_⟩:TStmtV)/\DL w (Flat.val e_) x.e/\DL w (Flat.val f_) x.f
 ext h e:=by
  obtain ⟨g0,g1,rfl,h0,h1⟩:=h
  exact ⟨g0,g1,rfl,h0.ext e,h1.ext e⟩
def TStmtOk (x:TStmt):Prop:=i64ok x.kind/\(x.reg).size<=maxLen/\(x.name).size<=maxLen/\(∀ y∈x.e,TNodeOk y)/\(∀ y∈x.f,TNodeOk y)/\i64ok x.n/\i64ok x.body/\i64ok x.els/\i64ok x.at_
structure TThread where
 name:ByteArray
 regs:(List ByteArray)
 body:(List TStmt)
 at_:Int
deriving DecidableEq
structure TThreadV where
 name:ByteArray
 regs:SV
 body:SV
 at_:Int
instance:Flat TThreadV where
 agg:=true
 sz:=4
 enc e:=[.string e.name,.slice e.regs.a e.regs.n e.regs.cap,.slice e.body.a e.body.n e.body.cap,.int .i64 e.at_]
 val e:=.agg [.string e.name,.slice e.regs.a e.regs.n e.regs.cap,.slice e.body.a e.body.n e.body.cap,.int .i64 e.at_].toArray
 pos:=by decide
 len _:=rfl
 one a v h:=by simp at h; rcases h with rfl | rfl | rfl | rfl <;> rfl
 vagg _ _:=rfl
 vone h:=by cases h
instance:Deep TThread TThreadV where
 dr w s x:=∃ (regs_:SV) (body_:SV),s=(⟨x.name,regs_,body_,x.at_⟩:TThreadV)/\DL w (Flat.val regs_) x.regs/\DL w (Flat.val body_) x.body
 ext h e:=by
  obtain ⟨g0,g1,rfl,h0,h1⟩:=h
  exact ⟨g0,g1,rfl,h0.ext e,h1.ext e⟩
def TThreadOk (x:TThread):Prop:=(x.name).size<=maxLen/\(∀ y∈x.regs,(λ y:ByteArray=>y.size<=maxLen) y)/\(∀ y∈x.body,TStmtOk y)/\i64ok x.at_
structure TClaim where
 e:(List TNode)
 at_:Int
deriving DecidableEq
structure TClaimV where
 e:SV
 at_:Int
instance:Flat TClaimV where
 agg:=true
 sz:=2
 enc e:=[.slice e.e.a e.e.n e.e.cap,.int .i64 e.at_]
 val e:=.agg [.slice e.e.a e.e.n e.e.cap,.int .i64 e.at_].toArray
 pos:=by decide
 len _:=rfl
 one a v h:=by simp at h; rcases h with rfl | rfl <;> rfl
 vagg _ _:=rfl
 vone h:=by cases h
instance:Deep TClaim TClaimV where
 dr w s x:=∃ (e_:SV),s=(⟨e_,x.at_⟩:TClaimV)/\DL w (Flat.val e_) x.e
 ext h e:=by
  obtain ⟨g0,rfl,h0⟩:=h
  exact ⟨g0,rfl,h0.ext e⟩
def TClaimOk (x:TClaim):Prop:=(∀ y∈x.e,TNodeOk y)/\i64ok x.at_
structure TProg where
 lines:(List (List TCell))
 vols:(List TCell)
 locks:(List TCell)
 threads:(List TThread)
 recover:(List TThread)
 claims:(List TClaim)
deriving DecidableEq
structure TProgV where
 lines:SV
 vols:SV
 locks:SV
 threads:SV
 recover:SV
 claims:SV
instance:Flat TProgV where
 agg:=true
 sz:=6
 enc e:=[.slice e.lines.a e.lines.n e.lines.cap,.slice e.vols.a e.vols.n e.vols.cap,.slice e.locks.a e.locks.n e.locks.cap,.slice e.threads.a e.threads.n e.threads.cap,.slice e.recover.a e.recover.n e.recover.cap,.slice e.claims.a e.claims.n e.claims.cap]
 val e:=.agg [.slice e.lines.a e.lines.n e.lines.cap,.slice e.vols.a e.vols.n e.vols.cap,.slice e.locks.a e.locks.n e.locks.cap,.slice e.threads.a e.threads.n e.threads.cap,.slice e.recover.a e.recover.n e.recover.cap,.slice e.claims.a e.claims.n e.claims.cap].toArray
 pos:=by decide
 len _:=rfl
 one a v h:=by simp at h; rcases h with rfl | rfl | rfl | rfl | rfl | rfl <;> rfl
 vagg _ _:=rfl
 vone h:=by cases h
instance:Deep TProg TProgV where
 dr w s x:=∃ (lines_:SV) (vols_:SV) (locks_:SV) (threads_:SV) (recover_:SV) (claims_:SV),s=(⟨lines_,vols_,locks_,threads_,recover_,claims_⟩:TProgV)/\DL w (Flat.val lines_) x.lines/\DL w (Flat.val vols_) x.vols/\DL w (Flat.val locks_) x.locks/\DL w (Flat.val threads_) x.threads/\DL w (Flat.val recover_) x.recover/\DL w (Flat.val claims_) x.claims
 ext h e:=by
  obtain ⟨g0,g1,g2,g3,g4,g5,rfl,h0,h1,h2,h3,h4,h5⟩:=h
  exact ⟨g0,g1,g2,g3,g4,g5,rfl,h0.ext e,h1.ext e,h2.ext e,h3.ext e,h4.ext e,h5.ext e⟩
def TProgOk (x:TProg):Prop:=(∀ y∈x.lines,(λ ys:(List TCell)=>∀ y∈ys,TCellOk y) y)/\(∀ y∈x.vols,TCellOk y)/\(∀ y∈x.locks,TCellOk y)/\(∀ y∈x.threads,TThreadOk y)/\(∀ y∈x.recover,TThreadOk y)/\(∀ y∈x.claims,TClaimOk y)
@[ext] structure TOp where
 kind:Int
 n:Int
deriving DecidableEq
instance:Flat TOp where
 agg:=true
 sz:=2
 enc e:=[.int .i64 e.kind,.int .i64 e.n]
 val e:=.agg [.int .i64 e.kind,.int .i64 e.n].toArray
 pos:=by decide
 len _:=rfl
 one a v h:=by simp at h; rcases h with rfl | rfl <;> rfl
 vagg _ _:=rfl
 vone h:=by cases h
instance:Deep TOp TOp:=plainDeep
structure TPick where
 kind:Int
 t:Int
 i:Int
 cut:(List Int)
deriving DecidableEq
structure TPickV where
 kind:Int
 t:Int
 i:Int
 cut:SV
instance:Flat TPickV where
 agg:=true
 sz:=4
 enc e:=[.int .i64 e.kind,.int .i64 e.t,.int .i64 e.i,.slice e.cut.a e.cut.n e.cut.cap]
 val e:=.agg [.int .i64 e.kind,.int .i64 e.t,.int .i64 e.i,.slice e.cut.a e.cut.n e.cut.cap].toArray
 pos:=by decide
 len _:=rfl
 one a v h:=by simp at h; rcases h with rfl | rfl | rfl | rfl <;> rfl
 vagg _ _:=rfl
 vone h:=by cases h
instance:Deep TPick TPickV where
 dr w s x:=∃ (cut_:SV),s=(⟨x.kind,x.t,x.i,cut_⟩:TPickV)/\DL w (Flat.val cut_) x.cut
 ext h e:=by
  obtain ⟨g0,rfl,h0⟩:=h
  exact ⟨g0,rfl,h0.ext e⟩
def TPickOk (x:TPick):Prop:=i64ok x.kind/\i64ok x.t/\i64ok x.i/\(∀ y∈x.cut,i64ok y)
@[ext] structure TEvent where
 kind:Int
 t:Int
 a:Int
 n:Int
 m:Int
deriving DecidableEq
instance:Flat TEvent where
 agg:=true
 sz:=5
 enc e:=[.int .i64 e.kind,.int .i64 e.t,.int .i64 e.a,.int .i64 e.n,.int .i64 e.m]
 val e:=.agg [.int .i64 e.kind,.int .i64 e.t,.int .i64 e.a,.int .i64 e.n,.int .i64 e.m].toArray
 pos:=by decide
 len _:=rfl
 one a v h:=by simp at h; rcases h with rfl | rfl | rfl | rfl | rfl <;> rfl
 vagg _ _:=rfl
 vone h:=by cases h
instance:Deep TEvent TEvent:=plainDeep
@[ext] structure TStatus where
 crashes:Int
 fault:Int
 t:Int
 done:Bool
 stuck:Bool
deriving DecidableEq
instance:Flat TStatus where
 agg:=true
 sz:=5
 enc e:=[.int .i64 e.crashes,.int .i64 e.fault,.int .i64 e.t,.bool e.done,.bool e.stuck]
 val e:=.agg [.int .i64 e.crashes,.int .i64 e.fault,.int .i64 e.t,.bool e.done,.bool e.stuck].toArray
 pos:=by decide
 len _:=rfl
 one a v h:=by simp at h; rcases h with rfl | rfl | rfl | rfl | rfl <;> rfl
 vagg _ _:=rfl
 vone h:=by cases h
instance:Deep TStatus TStatus:=plainDeep
@[ext] structure TEntry where
 kind:Int
 line:Int
 cell:Int
 n:Int
deriving DecidableEq
instance:Flat TEntry where
 agg:=true
 sz:=4
 enc e:=[.int .i64 e.kind,.int .i64 e.line,.int .i64 e.cell,.int .i64 e.n]
 val e:=.agg [.int .i64 e.kind,.int .i64 e.line,.int .i64 e.cell,.int .i64 e.n].toArray
 pos:=by decide
 len _:=rfl
 one a v h:=by simp at h; rcases h with rfl | rfl | rfl | rfl <;> rfl
 vagg _ _:=rfl
 vone h:=by cases h
instance:Deep TEntry TEntry:=plainDeep
@[ext] structure TToken where
 kind:Int
 text:ByteArray
 n:Int
 at_:Int
deriving DecidableEq
instance:Flat TToken where
 agg:=true
 sz:=4
 enc e:=[.int .i64 e.kind,.string e.text,.int .i64 e.n,.int .i64 e.at_]
 val e:=.agg [.int .i64 e.kind,.string e.text,.int .i64 e.n,.int .i64 e.at_].toArray
 pos:=by decide
 len _:=rfl
 one a v h:=by simp at h; rcases h with rfl | rfl | rfl | rfl <;> rfl
 vagg _ _:=rfl
 vone h:=by cases h
instance:Deep TToken TToken:=plainDeep
@[ext] structure TWrite where
 cell:Int
 n:Int
deriving DecidableEq
instance:Flat TWrite where
 agg:=true
 sz:=2
 enc e:=[.int .i64 e.cell,.int .i64 e.n]
 val e:=.agg [.int .i64 e.cell,.int .i64 e.n].toArray
 pos:=by decide
 len _:=rfl
 one a v h:=by simp at h; rcases h with rfl | rfl <;> rfl
 vagg _ _:=rfl
 vone h:=by cases h
instance:Deep TWrite TWrite:=plainDeep
def b01 (p:Bool):Int:=if p then 1 else 0
def quo64 (a b:Int):Int:=w64 (a.tdiv b)
def oneM (op a:Int):Int:=if op=3 then w64 (0 - a) else if op=4 then b01 (decide (a=0)) else 0
def oneE (op:Int):Int:=if op=3\/op=4 then 0 else 1
def twoV (op a b:Int):Int:=
 if op=5 then w64 (a+b) else if op=6 then w64 (a - b) else if op=7 then w64 (a * b) else if op=8 then quo64 a b else if op=9 then a.tmod b
 else if op=10 then b01 (decide (a=b)) else if op=11 then b01 (decide (¬ a=b)) else if op=12 then b01 (decide (a<b)) else if op=13 then b01 (decide (a<=b))
 else if op=14 then b01 (decide (¬ a=0) && decide (¬ b=0)) else if op=15 then b01 (decide (¬ a=0) || decide (¬ b=0)) else 0
def twoE (op b:Int):Int:=if op<5\/15<op then 1 else if (op=8\/op=9)/\b=0 then 12 else 0
def twoM (op a b:Int):Int:=if twoE op b=0 then twoV op a b else 0
theorem C220 (p:Bool) (w:World):CR 220 [.bool p] w (λ v w'=>v = .int .i64 (b01 p)/\Ext w w'):=by
 have hs:=St.start w;refine sk0 Tryz.func220 ?_;refine cond_b (λ c_is0=>?_) (λ c_is0=>?_)
 ·rw [c_is0];exact ⟨rfl,hs.chg⟩
 rw [c_is0];exact ⟨rfl,hs.chg⟩
theorem C221 (a:Int) (w:World):CR 221 [.int .i64 a] w (λ v w'=>v = .bool (decide (¬ a=0))/\Ext w w'):=by
 have hs:=St.start w;refine sk0 Tryz.func221 ?_;exact pop_neq ⟨rfl,hs.chg⟩
theorem C192 (op a:Int) (w:World):CR 192 [.int .i64 op,.int .i64 a] w (λ v w'=>v = .tuple #[.int .i64 (oneM op a),.int .i64 (oneE op)]/\Ext w w'):=by
 have hs:=St.start w;refine S192_ok _ _ _ _ ?_;unfold S192;refine pop_eql (cond_d (λ c_x8=>?_) (λ c_x8=>pop_eql (cond_d (λ c_x12=>?_) (λ c_x12=>?_))))
 ·refine pop_negW ?_;unfold oneM oneE
  first | (rw [if_pos c_x8,if_pos (.inl c_x8)]; exact ⟨rfl,hs.chg⟩) | (rw [if_neg c_x8,if_pos c_x12,if_pos (.inr c_x12)]; exact ⟨congrArg (λ p=>Value.tuple #[.int .i64 (b01 p),.int .i64 0]) (by simp),hs.chg⟩) | (rw [if_neg c_x8,if_neg c_x12,if_neg (by omega)]; exact ⟨rfl,hs.chg⟩)
 ·refine callP pl221 hs (C221 _ _) (λ _ he hs=>?_)
  first | refine pop_notd ?_ | refine pop_not ?_
  refine callP pl220 hs (C220 _ _) (λ _ he hs=>?_);unfold oneM oneE
  first | (rw [if_pos c_x8,if_pos (.inl c_x8)]; exact ⟨rfl,hs.chg⟩) | (rw [if_neg c_x8,if_pos c_x12,if_pos (.inr c_x12)]; exact ⟨congrArg (λ p=>Value.tuple #[.int .i64 (b01 p),.int .i64 0]) (by simp),hs.chg⟩) | (rw [if_neg c_x8,if_neg c_x12,if_neg (by omega)]; exact ⟨rfl,hs.chg⟩)
 unfold oneM oneE
 first | (rw [if_pos c_x8,if_pos (.inl c_x8)]; exact ⟨rfl,hs.chg⟩) | (rw [if_neg c_x8,if_pos c_x12,if_pos (.inr c_x12)]; exact ⟨congrArg (λ p=>Value.tuple #[.int .i64 (b01 p),.int .i64 0]) (by simp),hs.chg⟩) | (rw [if_neg c_x8,if_neg c_x12,if_neg (by omega)]; exact ⟨rfl,hs.chg⟩)
theorem arr301:ArrT Tryz.prog 301 16 240:=⟨by kernel_rfl,by kernel_rfl⟩
def opsR (b1 b2 b3 b4 b5 b6:Nat) (w:World):Prop:=
 Cell w b1 0 (.func (.func 242) #[] #[])/\Cell w b2 0 (.func (.func 243) #[] #[])/\Cell w b3 0 (.func (.func 244) #[] #[])/\Cell w b4 0 (.func (.func 245) #[] #[])/\Cell w b5 0 (.func (.func 246) #[] #[])/\Cell w b6 0 (.func (.func 247) #[] #[])
def opsV (b1 b2 b3 b4 b5 b6:Nat):Value:=
 .agg [.nilFunc,.nilFunc,.nilFunc,.nilFunc,.nilFunc,.func (.func 237) #[] #[],.func (.func 238) #[] #[],.func (.func 239) #[] #[],.func (.func 240) #[] #[],.func (.func 241) #[] #[],
  .func (.func 236) #[] #[.pointer (some ⟨b1,0,none⟩)],.func (.func 236) #[] #[.pointer (some ⟨b2,0,none⟩)],.func (.func 236) #[] #[.pointer (some ⟨b3,0,none⟩)],.func (.func 236) #[] #[.pointer (some ⟨b4,0,none⟩)],
  .func (.func 236) #[] #[.pointer (some ⟨b5,0,none⟩)],.func (.func 236) #[] #[.pointer (some ⟨b6,0,none⟩)]].toArray
def Fb2 (f:Value) (g:Int->Int->Bool):Prop:=∃ g0,f = .func (.func g0) #[] #[]/\Plain Tryz.prog g0/\
 ∀ a b w1,Calls Tryz.prog g0 [.int .i64 a,.int .i64 b].toArray w1 (Ret λ v w2=>v = .bool (g a b)/\Ext w1 w2)
theorem C237 (a b:Int) (w:World):CR 237 [.int .i64 a,.int .i64 b] w (λ v w'=>v = .int .i64 (w64 (a+b))/\Ext w w'):=by
 have hs:=St.start w;refine sk0 Tryz.func237 ?_;exact pop_addW ⟨rfl,hs.chg⟩
theorem C238 (a b:Int) (w:World):CR 238 [.int .i64 a,.int .i64 b] w (λ v w'=>v = .int .i64 (w64 (a - b))/\Ext w w'):=by
 have hs:=St.start w;refine sk0 Tryz.func238 ?_;exact pop_subW ⟨rfl,hs.chg⟩
theorem C239 (a b:Int) (w:World):CR 239 [.int .i64 a,.int .i64 b] w (λ v w'=>v = .int .i64 (w64 (a * b))/\Ext w w'):=by
 have hs:=St.start w;refine sk0 Tryz.func239 ?_;exact pop_mulW ⟨rfl,hs.chg⟩
theorem C240 (a b:Int) (w:World) (h:b≠0):CR 240 [.int .i64 a,.int .i64 b] w (λ v w'=>v = .int .i64 (quo64 a b)/\Ext w w'):=by
 have hs:=St.start w;refine sk0 Tryz.func240 ?_;exact pop_quoW h ⟨rfl,hs.chg⟩
theorem C241 (a b:Int) (w:World) (h:b≠0):CR 241 [.int .i64 a,.int .i64 b] w (λ v w'=>v = .int .i64 (a.tmod b)/\Ext w w'):=by
 have hs:=St.start w;refine sk0 Tryz.func241 ?_;exact pop_remW h ⟨rfl,hs.chg⟩
theorem C242 (a b:Int) (w:World):CR 242 [.int .i64 a,.int .i64 b] w (λ v w'=>v = .bool (decide (a=b))/\Ext w w'):=by
 have hs:=St.start w;refine sk0 Tryz.func242 ?_;exact pop_eql ⟨rfl,hs.chg⟩
theorem C243 (a b:Int) (w:World):CR 243 [.int .i64 a,.int .i64 b] w (λ v w'=>v = .bool (decide (¬ a=b))/\Ext w w'):=by
 have hs:=St.start w;refine sk0 Tryz.func243 ?_;exact pop_neq ⟨rfl,hs.chg⟩
theorem C244 (a b:Int) (w:World):CR 244 [.int .i64 a,.int .i64 b] w (λ v w'=>v = .bool (decide (a<b))/\Ext w w'):=by
 have hs:=St.start w;refine sk0 Tryz.func244 ?_;exact pop_lss ⟨rfl,hs.chg⟩
theorem C245 (a b:Int) (w:World):CR 245 [.int .i64 a,.int .i64 b] w (λ v w'=>v = .bool (decide (a<=b))/\Ext w w'):=by
 have hs:=St.start w;refine sk0 Tryz.func245 ?_;exact pop_leq ⟨rfl,hs.chg⟩
theorem C246 (a b:Int) (w:World):CR 246 [.int .i64 a,.int .i64 b] w (λ v w'=>v = .bool (decide (¬ a=0) && decide (¬ b=0))/\Ext w w'):=by
 have hs:=St.start w;refine sk0 Tryz.func246 ?_;refine ⟨_,?_,λ _ _ h=>h⟩;refine callP pl221 hs (C221 _ _) (λ _ he hs=>cond_d (λ c_x6=>?_) (λ c_x6=>?_))
 ·refine callP pl221 hs (C221 _ _) (λ _ he hs=>?_);intro dd1
  first | (rw [decide_eq_true c_x6]; exact ⟨rfl,hs.chg⟩) | (rw [decide_eq_false c_x6]; exact ⟨rfl,hs.chg⟩)
 intro dd1
 first | (rw [decide_eq_true c_x6]; exact ⟨rfl,hs.chg⟩) | (rw [decide_eq_false c_x6]; exact ⟨rfl,hs.chg⟩)
theorem C247 (a b:Int) (w:World):CR 247 [.int .i64 a,.int .i64 b] w (λ v w'=>v = .bool (decide (¬ a=0) || decide (¬ b=0))/\Ext w w'):=by
 have hs:=St.start w;refine sk0 Tryz.func247 ?_;refine ⟨_,?_,λ _ _ h=>h⟩;refine callP pl221 hs (C221 _ _) (λ _ he hs=>cond_d (λ c_x6=>?_) (λ c_x6=>?_))
 ·intro dd1
  first | (rw [decide_eq_true c_x6]; exact ⟨rfl,hs.chg⟩) | (rw [decide_eq_false c_x6]; exact ⟨rfl,hs.chg⟩)
 refine callP pl221 hs (C221 _ _) (λ _ he hs=>?_);intro dd1
 first | (rw [decide_eq_true c_x6]; exact ⟨rfl,hs.chg⟩) | (rw [decide_eq_false c_x6]; exact ⟨rfl,hs.chg⟩)
theorem C235 (g:Nat) (w:World):CR 235 [.func (.func g) #[] #[]] w (λ v w'=>∃ b,v = .func (.func 236) #[] #[.pointer (some ⟨b,0,none⟩)]/\New (blk b [.func (.func g) #[] #[]]) w w'):=by
 have hs:=St.start w;refine sk0 Tryz.func235 ?_;exact eop_box1 hs rfl (λ b_so1 _ hs=>⟨b_so1,rfl,hs.fresh⟩)
theorem C236 (a b:Int) (b2:Nat) (fv:Value) (g:Int->Int->Bool) (w:World) (hc:Cell w b2 0 fv) (hf:Fb2 fv g):CR 236 [.int .i64 a,.int .i64 b,.pointer (some ⟨b2,0,none⟩)] w (λ v w'=>v = .int .i64 (b01 (g a b))/\Ext w w'):=by
 obtain ⟨g0,rfl,hpl,hcall⟩:=hf;have hs:=St.start w;refine sk0 Tryz.func236 ?_;refine qop_cell ty52 (hc.ext hs.chg) (callV (first:=[]) (cap:=[]) hpl (hcall a b _) ?_);rintro _ _ ⟨rfl,he⟩;have hs:=hs.ext he;exact callP pl220 hs (C220 _ _) (λ _ _ hs=>⟨rfl,hs.chg⟩)
theorem C222 (w:World):CR 222 [] w (λ v w'=>∃ b1 b2 b3 b4 b5 b6,v=opsV b1 b2 b3 b4 b5 b6/\New (frz (opsR b1 b2 b3 b4 b5 b6)) w w'):=by
 have hs:=St.start w;refine S222_ok _ _ ?_;unfold S222;refine eop_allocA hs zero301 (λ b_x0 _ hs=>eop_allocA hs zero301 (λ b_l1 _ hs=>?_));refine pop_ixA arr301 (by omega) (by omega) (uop_blk hs ty240 (leb rfl) (rfl) (λ _ hs=>?_));refine pop_ixA arr301 (by omega) (by omega) (uop_blk hs ty240 (leb rfl) (rfl) (λ _ hs=>?_));refine pop_ixA arr301 (by omega) (by omega) (uop_blk hs ty240 (leb rfl) (rfl) (λ _ hs=>?_));refine pop_ixA arr301 (by omega) (by omega) (uop_blk hs ty240 (leb rfl) (rfl) (λ _ hs=>?_));refine pop_ixA arr301 (by omega) (by omega) (uop_blk hs ty240 (leb rfl) (rfl) (λ _ hs=>?_));refine callV (first:=[]) (cap:=[]) pl235 (C235 242 _) ?_;rintro _ _ ⟨b_x9,rfl,hnew⟩
 have hs:=hs.made hnew;refine pop_ixA arr301 (by omega) (by omega) (uop_blk hs.p1 ty240 (leb rfl) (rfl) (λ _ hs=>?_));refine callV (first:=[]) (cap:=[]) pl235 (C235 243 _) ?_;rintro _ _ ⟨b_x12,rfl,hnew⟩;have hs:=hs.made hnew;refine pop_ixA arr301 (by omega) (by omega) (uop_blk hs.p1 ty240 (leb rfl) (rfl) (λ _ hs=>?_));refine callV (first:=[]) (cap:=[]) pl235 (C235 244 _) ?_;rintro _ _ ⟨b_x15,rfl,hnew⟩;have hs:=hs.made hnew;refine pop_ixA arr301 (by omega) (by omega) (uop_blk hs.p1 ty240 (leb rfl) (rfl) (λ _ hs=>?_));refine callV (first:=[]) (cap:=[]) pl235 (C235 245 _) ?_;rintro _ _ ⟨b_x18,rfl,hnew⟩;have hs:=hs.made hnew;refine pop_ixA arr301 (by omega) (by omega) (uop_blk hs.p1 ty240 (leb rfl) (rfl) (λ _ hs=>?_))
 refine callV (first:=[]) (cap:=[]) pl235 (C235 246 _) ?_;rintro _ _ ⟨b_x21,rfl,hnew⟩;have hs:=hs.made hnew;refine pop_ixA arr301 (by omega) (by omega) (uop_blk hs.p1 ty240 (leb rfl) (rfl) (λ _ hs=>?_));refine callV (first:=[]) (cap:=[]) pl235 (C235 247 _) ?_;rintro _ _ ⟨b_x24,rfl,hnew⟩;have hs:=hs.made hnew;refine pop_ixA arr301 (by omega) (by omega) (uop_blk hs.p1 ty240 (leb rfl) (rfl) (λ _ hs=>?_));refine qop_blkA ty301 hs.hb rfl (uop_blkA hs.p7 ty301 rfl (by decide) (by simp [oneC,setAll]) (λ _ hs=>?_));refine qop_blkA ty301 hs.hb rfl ?_;have hs:=(((((((((((((hs.drop)).drop).p1).p2).p3).p4).p5).freezeBlk).p1).freezeBlk).p2).freezeBlk).p3;have hs:=hs.freezeBlk.p4.freezeBlk.p5.freezeBlk.frzAnd.frzAnd.frzAnd.frzAnd.frzAnd
 refine ⟨b_x9,b_x12,b_x15,b_x18,b_x21,b_x24,rfl,(hs.frzMono (Ψ:=opsR b_x9 b_x12 b_x15 b_x18 b_x21 b_x24) λ w h=>?_).fresh⟩;obtain ⟨⟨⟨⟨⟨h6,h5⟩,h4⟩,h3⟩,h2⟩,h1⟩:=h;exact ⟨h1.cell rfl,h2.cell rfl,h3.cell rfl,h4.cell rfl,h5.cell rfl,h6.cell rfl⟩
theorem fb1:Fb2 (.func (.func 242) #[] #[]) (λ a b=>decide (a=b)):=⟨242,rfl,pl242,λ a b w1=>C242 a b w1⟩
theorem fb2:Fb2 (.func (.func 243) #[] #[]) (λ a b=>decide (¬ a=b)):=⟨243,rfl,pl243,λ a b w1=>C243 a b w1⟩
theorem fb3:Fb2 (.func (.func 244) #[] #[]) (λ a b=>decide (a<b)):=⟨244,rfl,pl244,λ a b w1=>C244 a b w1⟩
theorem fb4:Fb2 (.func (.func 245) #[] #[]) (λ a b=>decide (a<=b)):=⟨245,rfl,pl245,λ a b w1=>C245 a b w1⟩
theorem fb5:Fb2 (.func (.func 246) #[] #[]) (λ a b=>decide (¬ a=0) && decide (¬ b=0)):=⟨246,rfl,pl246,λ a b w1=>C246 a b w1⟩
theorem fb6:Fb2 (.func (.func 247) #[] #[]) (λ a b=>decide (¬ a=0) || decide (¬ b=0)):=⟨247,rfl,pl247,λ a b w1=>C247 a b w1⟩
theorem C194 (op a b:Int) (w:World):CR 194 [.int .i64 op,.int .i64 a,.int .i64 b] w (λ v w'=>v = .tuple #[.int .i64 (twoM op a b),.int .i64 (twoE op b)]/\Ext w w'):=by
 have hs:=St.start w;refine S194_ok _ _ _ _ _ ?_;unfold S194;refine ⟨_,?_,λ _ _ h=>h⟩;refine pop_lss (cond_d (λ c_x10=>?_) (λ c_x10=>?_))
 ·intro dd1;refine cond_t ?_
  first | exact ⟨rfl,hs.chg⟩ | (subst_vars; exact ⟨rfl,hs.chg⟩) | (refine ⟨?_,hs.chg⟩; unfold twoM twoE twoV; first | (rw [if_pos (show op<5\/15<op by omega)]; rfl) | simp [*])
 refine pop_geq ?_;intro dd1;refine cond_d (λ c_x14=>?_) (λ c_x14=>?_)
 ·first | exact ⟨rfl,hs.chg⟩ | (subst_vars; exact ⟨rfl,hs.chg⟩) | (refine ⟨?_,hs.chg⟩; unfold twoM twoE twoV; first | (rw [if_pos (show op<5\/15<op by omega)]; rfl) | simp [*])
 refine callF pl222 (C222 _) ?_;rintro _ _ ⟨b1,b2,b3,b4,b5,b6,rfl,hnew⟩;have hs:=hs.made hnew;obtain rfl | rfl | rfl | rfl | rfl | rfl | rfl | rfl | rfl | rfl | rfl | rfl | rfl | rfl | rfl | rfl:op=0\/op=1\/op=2\/op=3\/op=4\/op=5\/op=6\/op=7\/op=8\/op=9\/op=10\/op=11\/op=12\/op=13\/op=14\/op=15:=by omega
 ·refine pop (v:=.nilFunc) (by kernel_rfl) (pop (v:=.bool true) (by kernel_rfl) ?_);refine cond_t ?_
  first | exact ⟨rfl,hs.chg⟩ | (subst_vars; exact ⟨rfl,hs.chg⟩) | (refine ⟨?_,hs.chg⟩; unfold twoM twoE twoV; first | (rw [if_pos (show op<5\/15<op by omega)]; rfl) | simp [*])
 ·refine pop (v:=.nilFunc) (by kernel_rfl) (pop (v:=.bool true) (by kernel_rfl) ?_);refine cond_t ?_
  first | exact ⟨rfl,hs.chg⟩ | (subst_vars; exact ⟨rfl,hs.chg⟩) | (refine ⟨?_,hs.chg⟩; unfold twoM twoE twoV; first | (rw [if_pos (show op<5\/15<op by omega)]; rfl) | simp [*])
 ·refine pop (v:=.nilFunc) (by kernel_rfl) (pop (v:=.bool true) (by kernel_rfl) ?_);refine cond_t ?_
  first | exact ⟨rfl,hs.chg⟩ | (subst_vars; exact ⟨rfl,hs.chg⟩) | (refine ⟨?_,hs.chg⟩; unfold twoM twoE twoV; first | (rw [if_pos (show op<5\/15<op by omega)]; rfl) | simp [*])
 ·refine pop (v:=.nilFunc) (by kernel_rfl) (pop (v:=.bool true) (by kernel_rfl) ?_);refine cond_t ?_
  first | exact ⟨rfl,hs.chg⟩ | (subst_vars; exact ⟨rfl,hs.chg⟩) | (refine ⟨?_,hs.chg⟩; unfold twoM twoE twoV; first | (rw [if_pos (show op<5\/15<op by omega)]; rfl) | simp [*])
 ·refine pop (v:=.nilFunc) (by kernel_rfl) (pop (v:=.bool true) (by kernel_rfl) ?_);refine cond_t ?_
  first | exact ⟨rfl,hs.chg⟩ | (subst_vars; exact ⟨rfl,hs.chg⟩) | (refine ⟨?_,hs.chg⟩; unfold twoM twoE twoV; first | (rw [if_pos (show op<5\/15<op by omega)]; rfl) | simp [*])
 ·refine pop (v:=.func (.func 237) #[] #[]) (by kernel_rfl) (pop (v:=.bool false) (by kernel_rfl) ?_);refine cond_f ?_;refine ⟨_,?_,λ _ _ h=>h⟩;refine pop_eql (cond_nb (by decide) ?_);refine pop_eql (cond_nb (by decide) ?_);intro dd2;refine cond_f (callV (first:=[]) (cap:=[]) pl237 (C237 a b _) ?_);rintro _ w4 ⟨rfl,he⟩;have hs:=hs.ext he
  first | exact ⟨rfl,hs.chg⟩ | (subst_vars; exact ⟨rfl,hs.chg⟩) | (refine ⟨?_,hs.chg⟩; unfold twoM twoE twoV; first | (rw [if_pos (show op<5\/15<op by omega)]; rfl) | simp [*])
 ·refine pop (v:=.func (.func 238) #[] #[]) (by kernel_rfl) (pop (v:=.bool false) (by kernel_rfl) ?_);refine cond_f ?_;refine ⟨_,?_,λ _ _ h=>h⟩;refine pop_eql (cond_nb (by decide) ?_);refine pop_eql (cond_nb (by decide) ?_);intro dd2;refine cond_f (callV (first:=[]) (cap:=[]) pl238 (C238 a b _) ?_);rintro _ w4 ⟨rfl,he⟩;have hs:=hs.ext he
  first | exact ⟨rfl,hs.chg⟩ | (subst_vars; exact ⟨rfl,hs.chg⟩) | (refine ⟨?_,hs.chg⟩; unfold twoM twoE twoV; first | (rw [if_pos (show op<5\/15<op by omega)]; rfl) | simp [*])
 ·refine pop (v:=.func (.func 239) #[] #[]) (by kernel_rfl) (pop (v:=.bool false) (by kernel_rfl) ?_);refine cond_f ?_;refine ⟨_,?_,λ _ _ h=>h⟩;refine pop_eql (cond_nb (by decide) ?_);refine pop_eql (cond_nb (by decide) ?_);intro dd2;refine cond_f (callV (first:=[]) (cap:=[]) pl239 (C239 a b _) ?_);rintro _ w4 ⟨rfl,he⟩;have hs:=hs.ext he
  first | exact ⟨rfl,hs.chg⟩ | (subst_vars; exact ⟨rfl,hs.chg⟩) | (refine ⟨?_,hs.chg⟩; unfold twoM twoE twoV; first | (rw [if_pos (show op<5\/15<op by omega)]; rfl) | simp [*])
 ·refine pop (v:=.func (.func 240) #[] #[]) (by kernel_rfl) (pop (v:=.bool false) (by kernel_rfl) ?_);refine cond_f ?_;refine ⟨_,?_,λ _ _ h=>h⟩;refine pop_eql (cond_yb (by decide) ?_);refine pop_eql ?_;intro dd2;refine cond_d (λ c_x21=>?_) (λ c_x21=>?_)
  ·first | exact ⟨rfl,hs.chg⟩ | (subst_vars; exact ⟨rfl,hs.chg⟩) | (refine ⟨?_,hs.chg⟩; unfold twoM twoE twoV; first | (rw [if_pos (show op<5\/15<op by omega)]; rfl) | simp [*])
  refine callV (first:=[]) (cap:=[]) pl240 (C240 a b _ c_x21) ?_;rintro _ w4 ⟨rfl,he⟩;have hs:=hs.ext he
  first | exact ⟨rfl,hs.chg⟩ | (subst_vars; exact ⟨rfl,hs.chg⟩) | (refine ⟨?_,hs.chg⟩; unfold twoM twoE twoV; first | (rw [if_pos (show op<5\/15<op by omega)]; rfl) | simp [*])
 ·refine pop (v:=.func (.func 241) #[] #[]) (by kernel_rfl) (pop (v:=.bool false) (by kernel_rfl) ?_);refine cond_f ?_;refine ⟨_,?_,λ _ _ h=>h⟩;refine pop_eql (cond_nb (by decide) ?_);refine pop_eql (cond_yb (by decide) ?_);refine pop_eql ?_;intro dd2;refine cond_d (λ c_x21=>?_) (λ c_x21=>?_)
  ·first | exact ⟨rfl,hs.chg⟩ | (subst_vars; exact ⟨rfl,hs.chg⟩) | (refine ⟨?_,hs.chg⟩; unfold twoM twoE twoV; first | (rw [if_pos (show op<5\/15<op by omega)]; rfl) | simp [*])
  refine callV (first:=[]) (cap:=[]) pl241 (C241 a b _ c_x21) ?_;rintro _ w4 ⟨rfl,he⟩;have hs:=hs.ext he
  first | exact ⟨rfl,hs.chg⟩ | (subst_vars; exact ⟨rfl,hs.chg⟩) | (refine ⟨?_,hs.chg⟩; unfold twoM twoE twoV; first | (rw [if_pos (show op<5\/15<op by omega)]; rfl) | simp [*])
 ·refine pop (v:=.func (.func 236) #[] #[.pointer (some ⟨b1,0,none⟩)]) (by kernel_rfl) (pop (v:=.bool false) (by kernel_rfl) ?_);refine cond_f ?_;refine ⟨_,?_,λ _ _ h=>h⟩;refine pop_eql (cond_nb (by decide) ?_);refine pop_eql (cond_nb (by decide) ?_);intro dd2;refine cond_f ?_;obtain ⟨o1,o2,o3,o4,o5,o6⟩:=hs.frz;refine callV (first:=[]) (cap:=[.pointer (some ⟨b1,0,none⟩)]) pl236 (C236 a b b1 _ _ _ o1 fb1) ?_;rintro _ w4 ⟨rfl,he⟩;have hs:=hs.ext he
  first | exact ⟨rfl,hs.chg⟩ | (subst_vars; exact ⟨rfl,hs.chg⟩) | (refine ⟨?_,hs.chg⟩; unfold twoM twoE twoV; first | (rw [if_pos (show op<5\/15<op by omega)]; rfl) | simp [*])
 ·refine pop (v:=.func (.func 236) #[] #[.pointer (some ⟨b2,0,none⟩)]) (by kernel_rfl) (pop (v:=.bool false) (by kernel_rfl) ?_);refine cond_f ?_;refine ⟨_,?_,λ _ _ h=>h⟩;refine pop_eql (cond_nb (by decide) ?_);refine pop_eql (cond_nb (by decide) ?_);intro dd2;refine cond_f ?_;obtain ⟨o1,o2,o3,o4,o5,o6⟩:=hs.frz;refine callV (first:=[]) (cap:=[.pointer (some ⟨b2,0,none⟩)]) pl236 (C236 a b b2 _ _ _ o2 fb2) ?_;rintro _ w4 ⟨rfl,he⟩;have hs:=hs.ext he
  first | exact ⟨rfl,hs.chg⟩ | (subst_vars; exact ⟨rfl,hs.chg⟩) | (refine ⟨?_,hs.chg⟩; unfold twoM twoE twoV; first | (rw [if_pos (show op<5\/15<op by omega)]; rfl) | simp [*])
 ·refine pop (v:=.func (.func 236) #[] #[.pointer (some ⟨b3,0,none⟩)]) (by kernel_rfl) (pop (v:=.bool false) (by kernel_rfl) ?_);refine cond_f ?_;refine ⟨_,?_,λ _ _ h=>h⟩;refine pop_eql (cond_nb (by decide) ?_);refine pop_eql (cond_nb (by decide) ?_);intro dd2;refine cond_f ?_;obtain ⟨o1,o2,o3,o4,o5,o6⟩:=hs.frz;refine callV (first:=[]) (cap:=[.pointer (some ⟨b3,0,none⟩)]) pl236 (C236 a b b3 _ _ _ o3 fb3) ?_;rintro _ w4 ⟨rfl,he⟩;have hs:=hs.ext he
  first | exact ⟨rfl,hs.chg⟩ | (subst_vars; exact ⟨rfl,hs.chg⟩) | (refine ⟨?_,hs.chg⟩; unfold twoM twoE twoV; first | (rw [if_pos (show op<5\/15<op by omega)]; rfl) | simp [*])
 ·refine pop (v:=.func (.func 236) #[] #[.pointer (some ⟨b4,0,none⟩)]) (by kernel_rfl) (pop (v:=.bool false) (by kernel_rfl) ?_);refine cond_f ?_;refine ⟨_,?_,λ _ _ h=>h⟩;refine pop_eql (cond_nb (by decide) ?_);refine pop_eql (cond_nb (by decide) ?_);intro dd2;refine cond_f ?_;obtain ⟨o1,o2,o3,o4,o5,o6⟩:=hs.frz;refine callV (first:=[]) (cap:=[.pointer (some ⟨b4,0,none⟩)]) pl236 (C236 a b b4 _ _ _ o4 fb4) ?_;rintro _ w4 ⟨rfl,he⟩;have hs:=hs.ext he
  first | exact ⟨rfl,hs.chg⟩ | (subst_vars; exact ⟨rfl,hs.chg⟩) | (refine ⟨?_,hs.chg⟩; unfold twoM twoE twoV; first | (rw [if_pos (show op<5\/15<op by omega)]; rfl) | simp [*])
 ·refine pop (v:=.func (.func 236) #[] #[.pointer (some ⟨b5,0,none⟩)]) (by kernel_rfl) (pop (v:=.bool false) (by kernel_rfl) ?_);refine cond_f ?_;refine ⟨_,?_,λ _ _ h=>h⟩;refine pop_eql (cond_nb (by decide) ?_);refine pop_eql (cond_nb (by decide) ?_);intro dd2;refine cond_f ?_;obtain ⟨o1,o2,o3,o4,o5,o6⟩:=hs.frz;refine callV (first:=[]) (cap:=[.pointer (some ⟨b5,0,none⟩)]) pl236 (C236 a b b5 _ _ _ o5 fb5) ?_;rintro _ w4 ⟨rfl,he⟩;have hs:=hs.ext he
  first | exact ⟨rfl,hs.chg⟩ | (subst_vars; exact ⟨rfl,hs.chg⟩) | (refine ⟨?_,hs.chg⟩; unfold twoM twoE twoV; first | (rw [if_pos (show op<5\/15<op by omega)]; rfl) | simp [*])
 refine pop (v:=.func (.func 236) #[] #[.pointer (some ⟨b6,0,none⟩)]) (by kernel_rfl) (pop (v:=.bool false) (by kernel_rfl) ?_);refine cond_f ?_;refine ⟨_,?_,λ _ _ h=>h⟩;refine pop_eql (cond_nb (by decide) ?_);refine pop_eql (cond_nb (by decide) ?_);intro dd2;refine cond_f ?_;obtain ⟨o1,o2,o3,o4,o5,o6⟩:=hs.frz;refine callV (first:=[]) (cap:=[.pointer (some ⟨b6,0,none⟩)]) pl236 (C236 a b b6 _ _ _ o6 fb6) ?_;rintro _ w4 ⟨rfl,he⟩;have hs:=hs.ext he
 first | exact ⟨rfl,hs.chg⟩ | (subst_vars; exact ⟨rfl,hs.chg⟩) | (refine ⟨?_,hs.chg⟩; unfold twoM twoE twoV; first | (rw [if_pos (show op<5\/15<op by omega)]; rfl) | simp [*])
theorem take_snoc {α:Type} {l:List α} {k:Nat} {e:α} (h:l[k]? = some e):l.take k++[e]=l.take (k+1):=by rw [List.take_add_one,h]; rfl
theorem take_all {α:Type} {φ:α->Prop} {l:List α} {k:Nat} {e:α} (h:∀ y∈l.take k,φ y) (he:l[k]? = some e) (hp:φ e):∀ y∈l.take (k+1),φ y:=by
 intro y hy
 rw [<- take_snoc he] at hy
 rcases List.mem_append.1 hy with hy | hy
 ·exact h y hy
 rw [List.mem_singleton.1 hy]; exact hp
theorem any_at {α:Type} {g:α->Bool} {l:List α} {k:Nat} {e:α} (he:l[k]? = some e) (hg:g e=true):l.any g=true:=List.any_eq_true.2 ⟨e,List.mem_of_getElem? he,hg⟩
theorem any_no {α:Type} {g:α->Bool} {l:List α} (h:∀ y∈l,g y=false):l.any g=false:=by
 rw [List.any_eq_false]; intro y hy; rw [h y hy]; simp
def idxF {α:Type} (g:α->Bool) (l:List α):Int:=match l.findIdx? g with | some k=>k | none=>-1
theorem idxF_at {α:Type} {g:α->Bool} {l:List α} {k:Nat} {e:α} (hno:∀ y∈l.take k,g y=false) (he:l[k]? = some e) (hg:g e=true):idxF g l=k:=by
 have:l.findIdx? g=some k:=by
  rw [List.findIdx?_eq_some_iff_getElem]
  have hk:=(List.getElem?_eq_some_iff.1 he).1
  refine ⟨hk,by rw [(List.getElem?_eq_some_iff.1 he).2]; exact hg,λ j hj=>?_⟩
  have:=hno (l[j]'(by omega)) (List.mem_take_iff_getElem.2 ⟨j,by omega,rfl⟩)
  simp [this]
 unfold idxF; rw [this]
theorem idxF_none {α:Type} {g:α->Bool} {l:List α} (hno:∀ y∈l,g y=false):idxF g l = -1:=by
 have:l.findIdx? g=none:=by rw [List.findIdx?_eq_none_iff]; exact hno
 unfold idxF; rw [this]
theorem idxF_any {α:Type} (g:α->Bool) (l:List α):decide (0<=idxF g l)=l.any g:=by
 unfold idxF
 cases h:l.findIdx? g with
 | none=>
  rw [List.findIdx?_eq_none_iff] at h
  have:l.any g=false:=by rw [List.any_eq_false]; intro x hx; rw [h x hx]; simp
  rw [this]; rfl
 | some k=>
  have h':=(List.findIdx?_eq_some_iff_getElem.1 h)
  obtain ⟨hk,hg,_⟩:=h'
  have:l.any g=true:=List.any_eq_true.2 ⟨_,List.getElem_mem hk,hg⟩
  rw [this]; simp
def FnOn {α:Type} [Flat α] (w:World) (f:Value) (g:α->Bool):Prop:=∃ g0 first cap,f = .func (.func g0) (List.toArray first) (List.toArray cap)/\Plain Tryz.prog g0/\
 ∀ x w1,Ext w w1->Calls Tryz.prog g0 (first++[Flat.val x]++cap).toArray w1 (Ret λ v w2=>v = .bool (g x)/\Ext w1 w2)
theorem FnOn.ext {α:Type} [Flat α] {w w':World} {f:Value} {g:α->Bool} (h:FnOn w f g) (e:Ext w w'):FnOn w' f g:=by
 obtain ⟨g0,first,cap,h1,h2,h3⟩:=h; exact ⟨g0,first,cap,h1,h2,λ x w1 e1=>h3 x w1 (e.trans e1)⟩
def wantsM (k:Int):Int:=if k=3\/k=4 then 1 else if 5<=k/\k<=15 then 2 else 0
def htF (st:Option (Int × Int)) (x:TOp):Option (Int × Int):=match st with
 | none=>none
 | some (n,h)=>if n - wantsM x.kind<0 then none else some (n - wantsM x.kind+1,max h (n - wantsM x.kind+1))
def ht (l:List TOp):Option (Int × Int):=l.foldl htF (some (0,0))
def htN (l:List TOp):Int:=match ht l with | some p=>p.1 | none=>0
def htH (l:List TOp):Int:=match ht l with | some p=>p.2 | none=>0
theorem ht_snoc {l:List TOp} {k:Nat} {x:TOp} (h:l[k]? = some x):ht (l.take (k+1))=htF (ht (l.take k)) x:=by
 unfold ht; rw [<- take_snoc h,List.foldl_append]; rfl
theorem ht_none {l:List TOp} {k:Nat} (h:ht (l.take k)=none):ht l=none:=by
 have key:∀ m:List TOp,m.foldl htF none=none:=λ m=>by induction m with | nil=>rfl | cons y m ih=>exact ih
 have e:l=l.take k++l.drop k:=(List.take_append_drop k l).symm
 unfold ht at *
 rw [e,List.foldl_append,h]; exact key _
theorem wants_b (k:Int):0<=wantsM k/\wantsM k<=2:=by
 unfold wantsM
 repeat' split
 all_goals omega
theorem ht_b {l:List TOp}:∀ k n h,k<=l.length->ht (l.take k)=some (n,h)->0<=n/\n<=(k:Int)/\0<=h/\h<=(k:Int)
 | 0,n,h,_,e=>by
  have:ht ([]:List TOp)=some (0,0):=rfl
  rw [List.take_zero,this] at e
  obtain ⟨rfl,rfl⟩:=Prod.mk.inj (Option.some.inj e); omega
 | k+1,n,h,hk,e=>by
  obtain ⟨x,hx⟩:∃ x,l[k]? = some x:=⟨_,List.getElem?_eq_getElem (by omega)⟩
  rw [ht_snoc hx] at e
  cases hp:ht (l.take k) with
  | none=>rw [hp] at e; cases e
  | some p=>
   obtain ⟨a,b⟩:=p
   have ih:=ht_b k a b (by omega) hp
   have hw:=wants_b x.kind
   rw [hp] at e
   unfold htF at e
   simp only [] at e
   split at e
   ·cases e
   ·obtain ⟨rfl,rfl⟩:=Prod.mk.inj (Option.some.inj e); omega
theorem ht_step {l:List TOp} {k:Nat} {x:TOp} {n h m:Int} (hx:l[k]? = some x) (hht:ht (l.take k)=some (n,h)) (hm:m=n - wantsM x.kind) (h0:¬ m<0):ht (l.take (k+1))=some (m+1,max h (m+1)):=by
 rw [ht_snoc hx,hht]; unfold htF; simp only []; rw [<- hm,if_neg h0]
theorem ht_bad {l:List TOp} {k:Nat} {x:TOp} {n h m:Int} (hx:l[k]? = some x) (hht:ht (l.take k)=some (n,h)) (hm:m=n - wantsM x.kind) (h0:m<0):ht (l.take (k+1))=none:=by
 rw [ht_snoc hx,hht]; unfold htF; simp only []; rw [<- hm,if_pos h0]
def oddOp (many:Int) (x:TOp):Bool:=decide ((x.kind=1/\(x.n<0\/4294967296<x.n))\/(x.kind=2/\(x.n<0\/many<=x.n))\/(¬ x.kind=1/\¬ x.kind=2/\(¬ x.n=0\/x.kind<1\/16<=x.kind)))
def rightOps (l:List TOp) (many:Int):Bool:=decide (l.length<=40) && (ht l).isSome && decide (htN l=1) && !l.any (oddOp many)
theorem C190 (k:Int) (w:World):CR 190 [.int .i64 k] w (λ v w'=>v = .int .i64 (wantsM k)/\Ext w w'):=by
 have hs:=St.start w;refine sk0 Tryz.func190 ?_;refine ⟨λ jv w'=>jv = .bool (decide (k=3\/k=4))/\w=w',pop_eql (cond_d (λ _=>⟨jvT (by omega),rfl⟩) (λ _=>pop_eql ⟨jvD (by omega),rfl⟩)),?_⟩;rintro _ _ ⟨rfl,hw⟩ _;subst hw;refine cond_d (λ c_x3=>?_) (λ c_x3=>⟨λ jv w'=>jv = .bool (decide (5<=k/\k<=15))/\w=w',pop_geq (cond_d (λ _=>pop_leq ⟨jvD (by omega),rfl⟩) (λ _=>⟨jvF (by omega),rfl⟩)),?_⟩)
 ·unfold wantsM
  first | (rw [if_pos c_x3]; exact ⟨rfl,hs.chg⟩) | (rw [if_neg c_x3,if_pos c_x10]; exact ⟨rfl,hs.chg⟩) | (rw [if_neg c_x3,if_neg c_x10]; exact ⟨rfl,hs.chg⟩)
 rintro _ _ ⟨rfl,hw⟩ _;subst hw;refine cond_d (λ c_x10=>?_) (λ c_x10=>?_)
 ·unfold wantsM
  first | (rw [if_pos c_x3]; exact ⟨rfl,hs.chg⟩) | (rw [if_neg c_x3,if_pos c_x10]; exact ⟨rfl,hs.chg⟩) | (rw [if_neg c_x3,if_neg c_x10]; exact ⟨rfl,hs.chg⟩)
 unfold wantsM
 first | (rw [if_pos c_x3]; exact ⟨rfl,hs.chg⟩) | (rw [if_neg c_x3,if_pos c_x10]; exact ⟨rfl,hs.chg⟩) | (rw [if_neg c_x3,if_neg c_x10]; exact ⟨rfl,hs.chg⟩)
theorem C217 (sv:Value) (xs:List TOp) (w:World) (hL:RdL (λ _=>True) w sv xs) (hn:xs.length<=1048576):CR 217 [sv] w (λ v w'=>v = .tuple #[.int .i64 (htN xs),.int .i64 (htH xs),.bool (ht xs).isSome]/\Ext w w'):=by
 have hs:=St.start w;refine sk0 Tryz.func217 ?_;refine pop_len sl233 (hL.ext hs.chg) ?_;refine ⟨λ m y z x w1=>∃ (k:Nat) (n h:Int),y = .int .i64 n/\z = .int .i64 h/\x = .int .i64 (k:Int)/\m=xs.length - k/\k<=xs.length/\ht (xs.take k)=some (n,h)/\St w none1 [] w1,⟨_,0,0,0,rfl,rfl,rfl,rfl,by omega,rfl,hs⟩,?_⟩;rintro m _ _ _ w1 ⟨k,n,h,rfl,rfl,rfl,rfl,hk,hht,hs⟩ _;refine pop_lss (cond_d (λ c_x12=>?_) (λ c_x12=>?_))
 ·obtain ⟨e_x13,he_x13⟩:=gx (xs) (i:=((k:Int)).toNat) (by omega);refine pop_idx sl233 (hL.ext hs.chg) (by omega) he_x13 (λ _ h_x13=>qop_at ty274 (h_x13) ?_);refine eop_allocA hs zero274 (λ b_x8 _ hs=>uop_blkV (x:=e_x13) hs ty274 rfl rfl (λ _ hs=>?_));refine pop_field fld274_0 (qop_blk ty3 hs.hb rfl ?_);refine callP pl190 hs (C190 _ _) (λ _ he hs=>?_);have hw:=wants_b e_x13.kind;have hhb:=ht_b k n h (by omega) hht;refine pop_sub (by omega) (pop_lss (cond_d (λ c_x21=>?_) (λ c_x21=>pop_add (by omega) (pop_max (pop_add (by omega) ⟨_,by omega,k+1,_,_,rfl,rfl,rfl,rfl,by omega,by rw [ht_snoc (k:=k) he_x13,hht]; unfold htF; simp only []; rw [if_neg c_x21],hs.drop⟩)))))
  have hz:ht xs=none:=ht_none (k:=k+1) (by rw [ht_snoc (k:=k) he_x13,hht]; unfold htF; simp only []; rw [if_pos c_x21]);unfold htN htH;rw [hz];exact ⟨rfl,hs.chg⟩
 rw [List.take_of_length_le (by omega)] at hht;unfold htN htH;rw [hht];exact ⟨rfl,hs.chg⟩
theorem C216 (x:TOp) (b2:Nat) (many:Int) (w:World) (hc:Cell w b2 0 (.int .i64 many)):CR 216 [Flat.val x,.pointer (some ⟨b2,0,none⟩)] w (λ v w'=>v = .bool (oddOp many x)/\Ext w w'):=by
 have hs:=St.start w;refine sk0 Tryz.func216 ?_;refine eop_boxV hs (λ b_x2 _ hs=>pop_field fld274_0 ?_);refine qop_blk ty3 hs.hb rfl (pop_eql ?_);refine cond_d (λ c_x7=>⟨_,pop_field fld274_1 (qop_blk ty3 hs.hb rfl (pop_lss (cond_d (λ c_x10=>?_) (λ c_x10=>?_)))),λ _ _ h=>h⟩) (λ c_x7=>pop_field fld274_0 (qop_blk ty3 hs.hb rfl (pop_eql (cond_d (λ c_x19=>⟨_,pop_field fld274_1 (qop_blk ty3 hs.hb rfl (pop_lss (cond_d (λ c_x22=>?_) (λ c_x22=>?_)))),λ _ _ h=>h⟩) (λ c_x19=>?_)))))
 ·intro dd1;refine ⟨vb ?_,hs.chg⟩;unfold oddOp
  first | exact (decide_eq_true (by omega)).symm | exact (decide_eq_false (by omega)).symm | exact decide_eq_decide.2 (by omega)
 ·refine pop_field fld274_1 (qop_blk ty3 hs.hb rfl ?_);refine pop_gtr ?_;intro dd1;refine ⟨vb ?_,hs.chg⟩;unfold oddOp
  first | exact (decide_eq_true (by omega)).symm | exact (decide_eq_false (by omega)).symm | exact decide_eq_decide.2 (by omega)
 ·intro dd2;refine ⟨vb ?_,hs.chg⟩;unfold oddOp
  first | exact (decide_eq_true (by omega)).symm | exact (decide_eq_false (by omega)).symm | exact decide_eq_decide.2 (by omega)
 ·refine pop_field fld274_1 (qop_blk ty3 hs.hb rfl ?_);refine qop_cell ty3 (hc.ext hs.chg) (pop_geq ?_);intro dd2;refine ⟨vb ?_,hs.chg⟩;unfold oddOp
  first | exact (decide_eq_true (by omega)).symm | exact (decide_eq_false (by omega)).symm | exact decide_eq_decide.2 (by omega)
 refine ⟨_,?_,λ _ _ h=>h⟩;refine pop_field fld274_1 (qop_blk ty3 hs.hb rfl (pop_neq (cond_d (λ c_x31=>?_) (λ c_x31=>pop_field fld274_0 (qop_blk ty3 hs.hb rfl (pop_lss (cond_d (λ c_x35=>?_) (λ c_x35=>?_))))))))
 ·intro dd3;refine ⟨vb ?_,hs.chg⟩;unfold oddOp
  first | exact (decide_eq_true (by omega)).symm | exact (decide_eq_false (by omega)).symm | exact decide_eq_decide.2 (by omega)
 ·intro dd3;refine ⟨vb ?_,hs.chg⟩;unfold oddOp
  first | exact (decide_eq_true (by omega)).symm | exact (decide_eq_false (by omega)).symm | exact decide_eq_decide.2 (by omega)
 refine pop_field fld274_0 (qop_blk ty3 hs.hb rfl ?_);refine pop_geq ?_;intro dd3;refine ⟨vb ?_,hs.chg⟩;unfold oddOp
 first | exact (decide_eq_true (by omega)).symm | exact (decide_eq_false (by omega)).symm | exact decide_eq_decide.2 (by omega)
theorem C234 (sv fv:Value) (xs:List TOp) (g:TOp->Bool) (w:World) (hL:RdL (λ _=>True) w sv xs) (hf:FnOn w fv g) (hn:xs.length<=1073741824):CR 234 [sv,fv] w (λ v w'=>v = .int .i64 (idxF g xs)/\Ext w w'):=by
 obtain ⟨g0,first,cap,rfl,hpl,hcall⟩:=hf;have hs:=St.start w;refine sk0 Tryz.func234 ?_;refine pop_len sl233 (hL.ext hs.chg) ?_;refine ⟨λ m x w1=>∃ k:Nat,x = .int .i64 (k:Int)/\m=xs.length - k/\k<=xs.length/\(∀ y∈xs.take k,g y=false)/\St w none1 [] w1,⟨_,0,rfl,rfl,Nat.zero_le _,by simp,hs⟩,?_⟩;rintro m _ w1 ⟨k,rfl,rfl,hk,hno,hs⟩ _;refine pop_lss (cond_d (λ c_x9=>?_) (λ _=>⟨congrArg (Value.int .i64) (idxF_none (by rw [List.take_of_length_le (by omega)] at hno; exact hno)).symm,hs.chg⟩));obtain ⟨e_x14,he_x14⟩:=gx (xs) (i:=((k:Int)).toNat) (by omega);refine pop_idx sl233 (hL.ext hs.chg) (by omega) he_x14 (λ _ h_x14=>qop_at ty274 (h_x14) ?_)
 refine callV hpl (hcall e_x14 w1 hs.chg) ?_;rintro _ _ ⟨rfl,he⟩;have hs:=hs.ext he;exact cond_b (λ c_x16=>⟨congrArg (Value.int .i64) (idxF_at hno he_x14 c_x16).symm,hs.chg⟩) (λ c_x16=>pop_add (by omega) ⟨xs.length - (k+1),by omega,k+1,rfl,rfl,by omega,take_all hno he_x14 c_x16,hs⟩)
theorem C218 (sv fv:Value) (xs:List TOp) (g:TOp->Bool) (w:World) (hL:RdL (λ _=>True) w sv xs) (hf:FnOn w fv g) (hn:xs.length<=1073741824):CR 218 [sv,fv] w (λ v w'=>v = .bool (xs.any g)/\Ext w w'):=by
 have hs:=St.start w;refine sk0 Tryz.func218 ?_;exact callP pl234 hs (C234 _ _ _ _ _ (hL.ext hs.chg) (hf.ext hs.chg) (by omega)) (λ _ _ hs=>pop_geq ⟨vb (idxF_any _ _),hs.chg⟩)
theorem C189 (sv:Value) (xs:List TOp) (many:Int) (w:World) (hL:RdL (λ _=>True) w sv xs) (hn:xs.length<=1048576):CR 189 [sv,.int .i64 many] w (λ v w'=>v = .bool (rightOps xs many)/\Ext w w'):=by
 have hs:=St.start w;refine sk0 Tryz.func189 ?_;refine eop_box1 hs rfl (λ b_many3 w1 hs=>callP pl217 hs (C217 _ _ _ (hL.ext hs.chg) (by omega)) (λ _ he hs=>?_));refine pop_ext rfl (pop_ext rfl ?_);refine pop_ext rfl ?_;refine ⟨_,?_,λ _ _ h=>h⟩;refine pop_len sl233 (hL.ext hs.chg) (pop_leq (cond_d (λ c_x18=>cond_b (λ c_x15=>pop_eql (cond_d (λ c_x24=>?_) (λ c_x24=>?_))) (λ c_x15=>?_)) (λ c_x18=>?_)))
 ·have hfn:FnOn _ (.func (.func 216) [].toArray [.pointer (some ⟨b_many3,0,none⟩)].toArray) (oddOp many):=
   ⟨216,[],_,rfl,pl216,λ y w1 e1=>C216 y b_many3 many w1 ((hs.hb.cell rfl).ext e1)⟩
  refine callP pl218 hs (C218 _ _ _ _ _ (hL.ext hs.chg) hfn (by omega)) (λ _ he hs=>pop_not ?_);intro dd1;refine ⟨vb ?_,hs.chg⟩;unfold rightOps
  simp_all <;> omega
 ·intro dd1;refine ⟨vb ?_,hs.chg⟩;unfold rightOps
  simp_all <;> omega
 ·intro dd1;refine ⟨vb ?_,hs.chg⟩;unfold rightOps
  simp_all <;> omega
 intro dd1;refine ⟨vb ?_,hs.chg⟩;unfold rightOps
 simp_all <;> omega
def pileO (b:Nat) (rest:List Value) (l:List Int):HP:=exH λ sv=>sep (blk b (sv::rest)) (ownL sv l)
theorem pileO.shut {w0 w:World} {A:Nat->Prop} {R:List HP} {b:Nat} {rest:List Value} {sv:Value} {l:List Int} (hs:St w0 A (blk b (sv::rest)::ownL sv l::R) w):St w0 A (pileO b rest l::R) w:=
 St.shutEx (H:=λ sv=>sep (blk b (sv::rest)) (ownL sv l)) sv (St.join hs)
theorem pileO.open {w0 w:World} {A:Nat->Prop} {R:List HP} {b:Nat} {rest:List Value} {l:List Int} (hs:St w0 A (pileO b rest l::R) w):∃ sv,St w0 A (blk b (sv::rest)::ownL sv l::R) w:=by
 obtain ⟨sv,hs⟩:=hs.openEx; exact ⟨sv,hs.split⟩
def lastI (l:List Int):Int:=l.getD (l.length - 1) 0
theorem lastI_at {l:List Int} {e:Int} (h:l[((l.length:Int) - 1).toNat]? = some e):e=lastI l:=by
 unfold lastI
 rw [List.getD_eq_getElem?_getD,show l.length - 1=((l.length:Int) - 1).toNat from by omega,h]; rfl
theorem C219 (b:Nat) (n:Int) (rest:List Value) (l:List Int) (F:Nat->Prop) (w:World) (hF:(pileO b rest l).p w F) (hn:l.length<=1048576):CR 219 [.pointer (some ⟨b,0,none⟩),.int .i64 n] w (λ v w'=>v = .tuple #[]/\Mut F (pileO b rest (l++[n])) w w'):=by
 have hs:=St.begin hF;obtain ⟨sv,hs⟩:=hs.openEx;have hs:=hs.split;refine sk0 Tryz.func219 ?_;refine pop_nil (pop_field fld270_0 ?_);refine qop_blk ty45 hs.hb rfl (eop_build (([n]:List Int)) hs sl45 rfl rfl (leb rfl) (λ s_x10 _ hs=>?_));have hr_x11:=(hs).rd';exact eop_append hs.p2 sl45 hr_x11 (by simp <;> omega) (by decide) (λ _ _ hs=>have hs:=hs.p1.drop;pop_nil (pop_field fld270_0 (uop_blk hs.p1 ty45 (leb rfl) ((hs).rd'.one) (λ _ hs=>have hs:=hs.p1.p1;⟨rfl,(pileO.shut hs).mut⟩))))
theorem C193 (b:Nat) (rest:List Value) (l:List Int) (F:Nat->Prop) (w:World) (hF:(pileO b rest l).p w F) (hn:l.length<=1048576) (h0:0<l.length):CR 193 [.pointer (some ⟨b,0,none⟩)] w (λ v w'=>v = .int .i64 (lastI l)/\Mut F (pileO b rest (l.take (l.length - 1))) w w'):=by
 have hs:=St.begin hF;obtain ⟨sv,hs⟩:=hs.openEx;have hs:=hs.split;refine sok Tryz.func193 (pl:=P193) ?_;refine pop_nil (pop_field fld270_0 ?_);have hs:=hs.drew;refine qop_blk ty45 hs.hb rfl (pop_nil ?_);refine pop_field fld270_0 (qop_blk ty45 hs.hb rfl ?_);refine pop_len sl45 (hs.p1).rd' (pop_sub (by omega) ?_);obtain ⟨e_x14,he_x14⟩:=gx (l) (i:=((((l).length:Int) - 1)).toNat) (by omega);refine pop_own hs.p1 sl45 (by omega) (by omega) (λ _ h_x14=>qop_own hs.p1 ty3 h_x14 he_x14 ?_);refine pop_nil (pop_field fld270_0 ?_);have hs:=hs.drew;refine qop_blk ty45 hs.hb rfl (pop_nil ?_);refine pop_field fld270_0 (qop_blk ty45 hs.hb rfl ?_);refine pop_len sl45 (hs.p1).rd' (pop_sub (by omega) ?_)
 have hs:=hs.p1;refine pop_ownCut sl45 hs (by omega) (by omega) (λ s_x27 hs=>pop_nil ?_);refine pop_field fld270_0 (uop_blk hs.p1 ty45 (leb rfl) ((hs).rd'.one) (λ _ hs=>?_));have hs:=hs.p1.p1;rw [show ((l.length:Int) - 1).toNat=l.length - 1 from by omega] at hs;rw [lastI_at he_x14];exact ⟨rfl,(pileO.shut hs).mut⟩
theorem C191 (b:Nat) (n hi:Int) (l:List Int) (F:Nat->Prop) (w:World) (hF:(pileO b [.int .i64 hi] l).p w F) (hn:l.length<=1048576):CR 191 [.pointer (some ⟨b,0,none⟩),.int .i64 n] w (λ v w'=>v = .tuple #[]/\∃ hi',Mut F (pileO b [.int .i64 hi'] (l++[n])) w w'):=by
 have hs:=St.begin hF;refine sok Tryz.func191 (pl:=P191) ?_;refine pop_nil (pop_field fld272_0 ?_);refine callMut pl219 hs (H':=λ _=>pileO b [.int .i64 hi] (l++[n])) (Φ:=λ v _=>v = .tuple #[]) (λ F hF=>?_) ?_
 ·exact C219 b n _ l F _ hF (by omega)
 rintro _ _ rfl hs;obtain ⟨sv,hs⟩:=pileO.open hs;exact pop_nil (pop_field fld272_1 (have hs:=hs.drew;qop_blk ty3 hs.hb rfl (pop_nil (pop_field fld272_0 (pop_field fld270_0 (qop_blk ty45 hs.hb rfl (pop_len sl45 (hs.p1).rd' (pop_max (pop_nil (pop_field fld272_1 (uop_blk hs ty3 (leb rfl) (rfl) (λ _ hs=>have hs:=hs.p1.p1;⟨rfl,_,(pileO.shut hs).mut⟩))))))))))))
def stepS (ns S:List Int) (x:TOp):List Int:=
 if wantsM x.kind=0 then S++[if x.kind=2 then ns.getD x.n.toNat 0 else x.n]
 else if wantsM x.kind=1 then S.take (S.length - 1)++[oneM x.kind (lastI S)]
 else S.take (S.length - 2)++[twoM x.kind (lastI (S.take (S.length - 1))) (lastI S)]
def errS (S:List Int) (x:TOp):Int:=if wantsM x.kind=2 then twoE x.kind (lastI S) else 0
def runL (ns:List Int):List TOp->List Int->Int × Int
 | [],S=>(lastI S,0)
 | x::r,S=>if errS S x=0 then runL ns r (stepS ns S x) else (0,errS S x)
def runM (l:List TOp) (ns:List Int):Int × Int:=if rightOps l ns.length=true then runL ns l [] else (0,8)
theorem wants_3 (k:Int):wantsM k=0\/wantsM k=1\/wantsM k=2:=by
 unfold wantsM
 repeat' split
 all_goals omega
section
variable {xs:List TOp} {ns S:List Int} {k:Nat} {x:TOp} {n h:Int}
theorem runL_ok (hx:xs[k]? = some x) (h:errS S x=0):runL ns (xs.drop k) S=runL ns (xs.drop (k+1)) (stepS ns S x):=by
 obtain ⟨hk,he⟩:=List.getElem?_eq_some_iff.1 hx
 rw [List.drop_eq_getElem_cons hk,he,runL,if_pos h]
theorem runL_bad (hx:xs[k]? = some x) (h:¬ errS S x=0):runL ns (xs.drop k) S=(0,errS S x):=by
 obtain ⟨hk,he⟩:=List.getElem?_eq_some_iff.1 hx
 rw [List.drop_eq_getElem_cons hk,he,runL,if_neg h]
theorem rightOps_spec {many:Int} (h:rightOps xs many=true):xs.length<=40/\(∃ a,ht xs=some (1,a))/\∀ x∈xs,oddOp many x=false:=by
 unfold rightOps at h
 rw [Bool.and_eq_true,Bool.and_eq_true,Bool.and_eq_true,decide_eq_true_eq,decide_eq_true_eq] at h
 obtain ⟨⟨⟨h1,h2⟩,h3⟩,h4⟩:=h
 refine ⟨h1,?_,λ x hx=>?_⟩
 ·unfold htN at h3
  cases hh:ht xs with
  | none=>rw [hh] at h2; cases h2
  | some p=>rw [hh] at h3; exact ⟨p.2,by rw [<- h3]⟩
 have:xs.any (oddOp many)=false:=by simpa using h4
 rw [List.any_eq_false] at this
 simpa using this x hx
theorem stepS_len (hw:wantsM x.kind<=(S.length:Int)):((stepS ns S x).length:Int)=S.length - wantsM x.kind+1:=by
 unfold stepS
 rcases wants_3 x.kind with h | h | h
 ·rw [if_pos h,h,List.length_append,List.length_singleton]; omega
 ·rw [if_neg (by omega),if_pos h,h,List.length_append,List.length_take,List.length_singleton]; omega
 rw [if_neg (by omega),if_neg (by omega),h,List.length_append,List.length_take,List.length_singleton]; omega
theorem pile_step {a:Int} (hall:ht xs=some (1,a)) (hht:ht (xs.take k)=some ((S.length:Int),h)) (hx:xs[k]? = some x) :
  wantsM x.kind<=(S.length:Int)/\∃ h',ht (xs.take (k+1))=some (((stepS ns S x).length:Int),h'):=by
 have hw:wantsM x.kind<=(S.length:Int):=by
  rcases Int.lt_or_le ((S.length:Int) - wantsM x.kind) 0 with h1 | h1
  ·have:=ht_none (ht_bad hx hht rfl h1); rw [hall] at this; cases this
  ·omega
 exact ⟨hw,_,(ht_step hx hht rfl (by omega)).trans (by rw [stepS_len hw])⟩
theorem step_0 (hw:wantsM x.kind=0) (h2:¬ x.kind=2):stepS ns S x=S++[x.n]:=by unfold stepS; rw [if_pos hw,if_neg h2]
theorem step_v {e:Int} (hw:wantsM x.kind=0) (h2:x.kind=2) (he:ns[x.n.toNat]? = some e):stepS ns S x=S++[e]:=by
 unfold stepS; rw [if_pos hw,if_pos h2,List.getD_eq_getElem?_getD,he]; rfl
theorem step_1 (hw:wantsM x.kind=1):stepS ns S x=S.take (S.length - 1)++[oneM x.kind (lastI S)]:=by unfold stepS; rw [if_neg (by omega),if_pos hw]
theorem step_2 (hw:wantsM x.kind=2):stepS ns S x=S.take (S.length - 2)++[twoM x.kind (lastI (S.take (S.length - 1))) (lastI S)]:=by unfold stepS; rw [if_neg (by omega),if_neg (by omega)]
theorem err_n (hw:¬ wantsM x.kind=2):errS S x=0:=by unfold errS; rw [if_neg hw]
theorem err_2 (hw:wantsM x.kind=2):errS S x=twoE x.kind (lastI S):=by unfold errS; rw [if_pos hw]
theorem take_take1 (h:2<=S.length):(S.take (S.length - 1)).take ((S.take (S.length - 1)).length - 1)=S.take (S.length - 2):=by
 rw [List.take_take,List.length_take]; congr 1; omega
end
def pile2O (b:Nat) (l:List Int):HP:=exH fun (hi:Int)=>pileO b [.int .i64 hi] l
theorem pile2O.shut {w0 w:World} {A:Nat->Prop} {R:List HP} {b:Nat} {hi:Int} {l:List Int} (hs:St w0 A (pileO b [.int .i64 hi] l::R) w):St w0 A (pile2O b l::R) w:=
 St.shutEx (H:=fun (hi:Int)=>pileO b [.int .i64 hi] l) hi hs
theorem Q172 (b:Nat) (n:Int) (l:List Int) (F:Nat->Prop) (w:World) (hF:(pile2O b l).p w F) (hn:l.length<=1048576) :
  Calls Tryz.prog 191 [.pointer (some ⟨b,0,none⟩),.int .i64 n].toArray w (Ret λ v w'=>v = .tuple #[]/\Mut F (pile2O b (l++[n])) w w'):=by
 obtain ⟨hi,hF⟩:=hF
 refine (C191 b n hi l F w hF hn).mono λ e w' ⟨v,he,hv,hi',F',h1,h2⟩=>⟨v,he,hv,F',⟨hi',h1⟩,h2⟩
theorem Q174 (b:Nat) (l:List Int) (F:Nat->Prop) (w:World) (hF:(pile2O b l).p w F) (hn:l.length<=1048576) (h0:0<l.length) :
  Calls Tryz.prog 193 [.pointer (some ⟨b,0,none⟩)].toArray w (Ret λ v w'=>v = .int .i64 (lastI l)/\Mut F (pile2O b (l.take (l.length - 1))) w w'):=by
 obtain ⟨hi,hF⟩:=hF
 refine (C193 b [.int .i64 hi] l F w hF hn h0).mono λ e w' ⟨v,he,hv,F',h1,h2⟩=>⟨v,he,hv,F',⟨hi,h1⟩,h2⟩
theorem C154 (sv nv:Value) (xs:List TOp) (ns:List Int) (w:World) (hL:RdL (λ _=>True) w sv xs) (hN:RdL (λ _=>True) w nv ns) (hn:xs.length<=1048576):CR 154 [sv,nv] w (λ v w'=>v = .tuple #[.int .i64 (runM xs ns).1,.int .i64 (runM xs ns).2]/\Ext w w'):=by
 have hs:=St.start w;refine S154_ok _ _ _ _ ?_;unfold S154;refine pop_len sl45 (hN.ext hs.chg) (callP pl189 hs (C189 _ _ _ _ (hL.ext hs.chg) hn) (λ w1 he hs=>pop_not (cond_b (λ c_x19=>?_) (λ c_x19=>?_))))
 ·unfold runM;rw [if_neg (by simpa using c_x19)];exact ⟨rfl,hs.chg⟩
 refine eop_allocA hs zero272 (λ b_p6 _ hs=>?_);have hs:=pile2O.shut (pileO.shut (hs.ownNil (α:=Int)).p1);have c_x18:rightOps xs (ns.length:Int)=true:=by simpa using c_x19
 obtain ⟨h40,⟨a0,hall⟩,hodd⟩:=rightOps_spec c_x18;refine pop_len sl233 (hL.ext hs.chg) ?_;refine ⟨λ m x w1=>∃ (k:Nat) (S:List Int) (h:Int),x = .int .i64 (k:Int)/\m=xs.length - k/\k<=xs.length/\runL ns xs []=runL ns (xs.drop k) S/\ht (xs.take k)=some ((S.length:Int),h)/\St w none1 [pile2O b_p6 S] w1,⟨_,0,[],0,rfl,rfl,by omega,rfl,rfl,hs⟩,?_⟩;rintro m _ _ ⟨k,S,h,rfl,rfl,hk,hrun,hht,hs⟩ _;refine pop_lss (cond_d (λ c_x23=>?_) (λ c_x23=>?_))
 ·refine ⟨_,?_,λ _ h=>h⟩;obtain ⟨e_x24,he_x24⟩:=gx (xs) (i:=((k:Int)).toNat) (by omega);refine pop_idx sl233 (hL.ext hs.chg) (by omega) he_x24 (λ _ h_x24=>qop_at ty274 (h_x24) ?_);refine eop_allocA hs zero274 (λ b_x8 _ hs=>uop_blkV (x:=e_x24) hs ty274 rfl rfl (λ _ hs=>?_));refine pop_field fld274_0 (qop_blk ty3 hs.hb rfl ?_);refine callP pl190 hs (C190 _ _) (λ _ he hs=>?_);have hod:=hodd _ (List.mem_of_getElem? he_x24);unfold oddOp at hod;have ho:=of_decide_eq_false hod;obtain ⟨hw0,h2,hht2⟩:=pile_step (ns:=ns) (k:=k) hall hht he_x24;have hwk:wantsM e_x24.kind=0->e_x24.kind=1\/e_x24.kind=2\/¬ (e_x24.kind=1\/e_x24.kind=2):=λ _=>by omega
  have hSk:=ht_b k _ _ (by omega) hht;have hw3:=wants_3 e_x24.kind;refine pop_eql (cond_d (λ c_x46=>pop_field fld274_1 (qop_blk ty3 hs.hb rfl ⟨_,pop_field fld274_0 (qop_blk ty3 hs.hb rfl (pop_eql (cond_d (λ c_x51=>?_) (λ c_x51=>?_)))),λ _ _ h=>h⟩)) (λ c_x46=>pop_eql (cond_d (λ c_x60=>?_) (λ c_x60=>?_))))
  ·refine pop_field fld274_1 (qop_blk ty3 hs.hb rfl ?_);obtain ⟨e_x55,he_x55⟩:=gx (ns) (i:=((e_x24).n).toNat) (by omega);refine pop_idx sl45 (hN.ext hs.chg) (by omega) he_x55 (λ _ h_x55=>qop_at ty3 (h_x55) ?_);intro dd2;refine callMut pl191 hs.p1 (H':=λ _=>pile2O b_p6 (S++[e_x55])) (Φ:=λ v _=>v = .tuple #[]) (λ F hF=>?_) ?_
   ·exact Q172 b_p6 e_x55 S F _ hF (by first | omega | (simp only [List.length_take,List.length_append,List.length_singleton]; omega))
   rintro _ w8 rfl hs;intro dd3;refine pop_add (by omega) ?_;have hs:=(hs.p1).drop;have hst:stepS ns S e_x24=_:=step_v c_x46 c_x51 he_x55;exact ⟨_,by omega,k+1,_,_,rfl,rfl,by omega,hrun.trans (runL_ok (k:=k) he_x24 (err_n (by omega))),hht2,by rw [hst]; exact hs⟩
  ·intro dd2;refine callMut pl191 hs.p1 (H':=λ _=>pile2O b_p6 (S++[(e_x24).n])) (Φ:=λ v _=>v = .tuple #[]) (λ F hF=>?_) ?_
   ·exact Q172 b_p6 (e_x24).n S F _ hF (by first | omega | (simp only [List.length_take,List.length_append,List.length_singleton]; omega))
   rintro _ w8 rfl hs;intro dd3;refine pop_add (by omega) ?_;have hs:=(hs.p1).drop;have hst:stepS ns S e_x24=_:=step_0 c_x46 c_x51;exact ⟨_,by omega,k+1,_,_,rfl,rfl,by omega,hrun.trans (runL_ok (k:=k) he_x24 (err_n (by omega))),hht2,by rw [hst]; exact hs⟩
  ·refine pop_field fld274_0 ?_;have hs:=hs.drew;refine qop_blk ty3 hs.hb rfl (pop_field fld272_0 ?_);refine callMut pl193 hs.p1 (H':=λ _=>pile2O b_p6 (S.take (S.length - 1))) (Φ:=λ v _=>v = .int .i64 (lastI S)) (λ F hF=>?_) ?_
   ·exact Q174 b_p6 S F _ hF (by first | omega | (simp only [List.length_take,List.length_append,List.length_singleton]; omega)) (by first | omega | (simp only [List.length_take,List.length_append,List.length_singleton]; omega))
   rintro _ _ rfl hs;refine ⟨run_loadOne ty3 (hs.p1.hb.cell rfl),?_⟩;refine callP pl192 hs (C192 _ _ _) (λ _ he hs=>pop_ext rfl ?_);refine pop_ext rfl (callMut pl191 hs (H':=λ _=>pile2O b_p6 ((S.take (S.length - 1))++[(oneM (e_x24).kind (lastI S))])) (Φ:=λ v _=>v = .tuple #[]) (λ F hF=>?_) ?_)
   ·exact Q172 b_p6 (oneM (e_x24).kind (lastI S)) (S.take (S.length - 1)) F _ hF (by first | omega | (simp only [List.length_take,List.length_append,List.length_singleton]; omega))
   rintro _ _ rfl hs;intro dd3;refine pop_add (by omega) ?_;have hs:=(hs.p1).drop;have hst:stepS ns S e_x24=_:=step_1 c_x60;exact ⟨_,by omega,k+1,_,_,rfl,rfl,by omega,hrun.trans (runL_ok (k:=k) he_x24 (err_n (by omega))),hht2,by rw [hst]; exact hs⟩
  refine pop_field fld272_0 (callMut pl193 hs.p1 (H':=λ _=>pile2O b_p6 (S.take (S.length - 1))) (Φ:=λ v _=>v = .int .i64 (lastI S)) (λ F hF=>?_) ?_)
  ·exact Q174 b_p6 S F _ hF (by first | omega | (simp only [List.length_take,List.length_append,List.length_singleton]; omega)) (by first | omega | (simp only [List.length_take,List.length_append,List.length_singleton]; omega))
  rintro _ _ rfl hs;refine pop_field fld274_0 ?_;have hs:=hs.drew;refine qop_blk ty3 hs.p1.hb rfl (pop_field fld272_0 ?_);refine callMut pl193 hs (H':=λ _=>pile2O b_p6 ((S.take (S.length - 1)).take ((S.take (S.length - 1)).length - 1))) (Φ:=λ v _=>v = .int .i64 (lastI (S.take (S.length - 1)))) (λ F hF=>?_) ?_
  ·exact Q174 b_p6 (S.take (S.length - 1)) F _ hF (by first | omega | (simp only [List.length_take,List.length_append,List.length_singleton]; omega)) (by first | omega | (simp only [List.length_take,List.length_append,List.length_singleton]; omega))
  rintro _ _ rfl hs;refine ⟨run_loadOne ty3 (hs.p1.hb.cell rfl),?_⟩;refine callP pl194 hs (C194 _ _ _ _) (λ _ he hs=>pop_ext rfl (pop_ext rfl (pop_neq (cond_d (λ c_x41=>?_) (λ c_x41=>?_)))))
  ·have hz:errS S e_x24=twoE e_x24.kind (lastI S):=err_2 (by have:=wants_3 e_x24.kind; omega);unfold runM;rw [if_pos c_x18,hrun,runL_bad (k:=k) he_x24 (by rw [hz]; exact c_x41),hz];exact ⟨rfl,hs.chg⟩
  refine callMut pl191 hs (H':=λ _=>pile2O b_p6 (((S.take (S.length - 1)).take ((S.take (S.length - 1)).length - 1))++[(twoM (e_x24).kind (lastI (S.take (S.length - 1))) (lastI S))])) (Φ:=λ v _=>v = .tuple #[]) (λ F hF=>?_) ?_
  ·exact Q172 b_p6 (twoM (e_x24).kind (lastI (S.take (S.length - 1))) (lastI S)) ((S.take (S.length - 1)).take ((S.take (S.length - 1)).length - 1)) F _ hF (by first | omega | (simp only [List.length_take,List.length_append,List.length_singleton]; omega))
  rintro _ _ rfl hs;intro dd3;refine pop_add (by omega) ?_;have hs:=(hs.p1).drop;rw [take_take1 (by omega)] at hs;have hst:stepS ns S e_x24=_:=step_2 (by have:=wants_3 e_x24.kind; omega);exact ⟨_,by omega,k+1,_,_,rfl,rfl,by omega,hrun.trans (runL_ok (k:=k) he_x24 ((err_2 (by have:=wants_3 e_x24.kind; omega)).trans (Decidable.not_not.1 c_x41))),hht2,by rw [hst]; exact hs⟩
 refine pop_field fld272_0 ?_
 have hS1:S.length=1:=by
  rw [List.take_of_length_le (by omega),hall] at hht;have:=(Prod.mk.inj (Option.some.inj hht)).1;omega
 refine callMut pl193 hs (H':=λ _=>pile2O b_p6 (S.take (S.length - 1))) (Φ:=λ v _=>v = .int .i64 (lastI S)) (λ F hF=>?_) ?_
 ·exact Q174 b_p6 S F _ hF (by first | omega | (simp only [List.length_take,List.length_append,List.length_singleton]; omega)) (by first | omega | (simp only [List.length_take,List.length_append,List.length_singleton]; omega))
 rintro _ _ rfl hs;unfold runM;rw [if_pos c_x18,hrun,List.drop_eq_nil_of_le (by omega)];exact ⟨rfl,hs.chg⟩
def placeM (ns:List ByteArray) (s:ByteArray):Int:=idxF (λ y=>decide (y=s)) ns
def allC (p:TProg):List TCell:=p.lines.flatten++p.vols
structure PS (p:TProg):Prop where
 lines:p.lines.length<=500
 line:∀ l∈p.lines,l.length<=500
 vols:p.vols.length<=500
 locks:p.locks.length<=500
 threads:p.threads.length<=500
 recover:p.recover.length<=500
 claims:p.claims.length<=500
 regs:∀ t∈p.threads++p.recover,t.regs.length<=500
 body:∀ t∈p.threads++p.recover,t.body.length<=500
theorem flat_len {ls:List (List TCell)} (h:∀ l∈ls,l.length<=500):ls.flatten.length<=500 * ls.length:=by
 induction ls with
 | nil=>simp
 | cons a ls ih=>
  have h1:=h a (by simp)
  have h2:=ih λ l hl=>h l (List.mem_cons_of_mem _ hl)
  rw [List.flatten_cons,List.length_append,List.length_cons]; omega
theorem allC_len {p:TProg} (h:PS p):(allC p).length<=250500:=by
 have h1:=flat_len h.line
 have h2:=h.lines
 have h3:=h.vols
 unfold allC; rw [List.length_append]; omega
theorem map_snoc {α β:Type} {f:α->β} {l:List α} {k:Nat} {e:α} (h:l[k]? = some e):(l.take k).map f++[f e]=(l.take (k+1)).map f:=by rw [<- take_snoc h,List.map_append]; rfl
def kids (k:Int):Int:=if k=1\/k=2 then 0 else if k=3\/k=4 then 1 else if 5<=k/\k<=15 then 2 else -1
theorem kids_b (k:Int) : -1<=kids k/\kids k<=2:=by
 unfold kids
 repeat' split
 all_goals omega
def letterM (c:Int):Bool:=decide (97<=c/\c<=122\/c=95)
def digitM (c:Int):Bool:=decide (48<=c/\c<=57)
def keptL:List ByteArray:=[⟨#[108,105,110,101]⟩,⟨#[118,111,108]⟩,⟨#[108,111,99,107]⟩,⟨#[116,104,114,101,97,100]⟩,⟨#[114,101,103]⟩,⟨#[108,111,97,100]⟩,⟨#[115,116,111,114,101]⟩,⟨#[99,97,115]⟩,⟨#[102,108,117,115,104]⟩,⟨#[111,112,116]⟩,⟨#[115,102,101,110,99,101]⟩,⟨#[109,102,101,110,99,101]⟩,⟨#[116,97,107,101]⟩,⟨#[103,105,118,101]⟩,⟨#[105,102]⟩,⟨#[101,108,115,101]⟩,⟨#[108,111,111,112]⟩,⟨#[98,114,101,97,107]⟩,⟨#[99,104,101,99,107]⟩,⟨#[114,101,99,111,118,101,114]⟩,⟨#[97,108,119,97,121,115]⟩]
def nameM (s:ByteArray):Bool:=!(decide (s.size<1\/16<s.size) || (match (bts s)[0]? with | some c=>!letterM c.toNat | none=>true) || keptL.any (λ y=>decide (y=s))) && !(bts s).any (λ c=>!letterM c.toNat && !digitM c.toNat)
def skip:Nat->List TNode->Option (List TNode)
 | 0,l=>some l
 | _+1,[]=>none
 | n+1,x::l=>if kids x.op<0 then none else skip (n+(kids x.op).toNat) l
theorem skip_z (l:List TNode):skip 0 l=some l:=by cases l <;> rfl
theorem skip_add (l:List TNode):∀ a b,skip (a+b) l=(skip a l).bind (skip b):=by
 induction l with
 | nil=>
  intro a b
  cases a with
  | zero=>rw [Nat.zero_add,skip_z]; rfl
  | succ a=>rw [show a+1+b=(a+b)+1 from by omega]; rfl
 | cons x l ih=>
  intro a b
  cases a with
  | zero=>rw [Nat.zero_add,skip_z]; rfl
  | succ a=>
   rw [show a+1+b=(a+b)+1 from by omega]
   show (if kids x.op<0 then none else skip (a+b+(kids x.op).toNat) l)=(if kids x.op<0 then none else skip (a+(kids x.op).toNat) l).bind (skip b)
   split
   ·rfl
   ·rw [show a+b+(kids x.op).toNat=a+(kids x.op).toNat+b from by omega]; exact ih _ _
def stP (n:Nat) (o:Option (List TNode)):Int:=match o with | some r=>(n:Int) - r.length | none=>-1
def endM (xs:List TNode) (i:Int):Int:=if i<0 then -1 else stP xs.length (skip 1 (xs.drop i.toNat))
inductive Ex where
 | leaf (x:TNode)
 | un (x:TNode) (a:Ex)
 | bin (x:TNode) (a b:Ex)
namespace Ex
def root:Ex->TNode | leaf x=>x | un x _=>x | bin x _ _=>x
def kidsL:Ex->List Ex | leaf _=>[] | un _ a=>[a] | bin _ a b=>[a,b]
def flat:Ex->List TNode | leaf x=>[x] | un x a=>x::a.flat | bin x a b=>x::(a.flat++b.flat)
def wf:Ex->Prop | leaf x=>kids x.op=0 | un x a=>kids x.op=1/\a.wf | bin x a b=>kids x.op=2/\a.wf/\b.wf
def depth:Ex->Int | leaf _=>1 | un _ a=>a.depth+1 | bin _ a b=>max a.depth b.depth+1
def size:Ex->Nat | leaf _=>1 | un _ a=>a.size+1 | bin _ a b=>a.size+b.size+1
def numOf (ns:List ByteArray) (x:TNode):Int:=if x.op=2 then placeM ns x.name else x.n
def steps (ns:List ByteArray):Ex->List TOp
 | leaf x=>[⟨x.op,numOf ns x⟩]
 | un x a=>a.steps ns++[⟨x.op,numOf ns x⟩]
 | bin x a b=>a.steps ns++b.steps ns++[⟨x.op,numOf ns x⟩]
end Ex
theorem Ex.flat_len (t:Ex):t.flat.length=t.size:=by
 induction t with
 | leaf x=>rfl
 | un x a ih=>simp [Ex.flat,Ex.size,ih]
 | bin x a b iha ihb=>simp [Ex.flat,Ex.size,iha,ihb]
theorem Ex.flat_kids (t:Ex):t.flat=t.root::(t.kidsL.map Ex.flat).flatten:=by
 cases t <;> simp [Ex.flat,Ex.root,Ex.kidsL]
theorem Ex.kids_len {t:Ex} (h:t.wf):kids t.root.op=t.kidsL.length:=by
 cases t with
 | leaf x=>exact h
 | un x a=>exact h.1
 | bin x a b=>exact h.1
theorem Ex.kid_wf {t a:Ex} (h:t.wf) (ha:a∈t.kidsL):a.wf/\a.size<t.size:=by
 cases t with
 | leaf x=>cases ha
 | un x b=>rw [List.mem_singleton.1 ha]; exact ⟨h.2,by simp [Ex.size]⟩
 | bin x b c=>
  rcases List.mem_cons.1 ha with rfl | ha
  ·exact ⟨h.2.1,by simp [Ex.size]; omega⟩
  ·rw [List.mem_singleton.1 ha]; exact ⟨h.2.2,by simp [Ex.size]; omega⟩
theorem Ex.depth_b (t:Ex):1<=t.depth/\t.depth<=t.size:=by
 induction t with
 | leaf x=>simp [Ex.depth,Ex.size]
 | un x a ih=>simp only [Ex.depth,Ex.size]; omega
 | bin x a b iha ihb=>simp only [Ex.depth,Ex.size]; omega
theorem Ex.steps_len (ns:List ByteArray) (t:Ex):(t.steps ns).length=t.size:=by
 induction t with
 | leaf x=>rfl
 | un x a ih=>simp [Ex.steps,Ex.size,ih]
 | bin x a b iha ihb=>simp [Ex.steps,Ex.size,iha,ihb]; omega
theorem skip_flat (t:Ex) (h:t.wf):∀ n r,skip (n+1) (t.flat++r)=skip n r:=by
 induction t with
 | leaf x=>
  intro n r
  show (if kids x.op<0 then none else skip (n+(kids x.op).toNat) r)=_
  rw [show kids x.op=0 from h]; rfl
 | un x a ih=>
  intro n r
  show (if kids x.op<0 then none else skip (n+(kids x.op).toNat) (a.flat++r))=_
  rw [show kids x.op=1 from h.1,if_neg (by omega)]; exact ih h.2 n r
 | bin x a b iha ihb=>
  intro n r
  show (if kids x.op<0 then none else skip (n+(kids x.op).toNat) (a.flat++b.flat++r))=_
  rw [show kids x.op=2 from h.1,if_neg (by omega),List.append_assoc]
  show skip (n+1+1) _=_
  rw [iha h.2.1 (n+1),ihb h.2.2 n]
theorem ex_of:∀ (k:Nat) (l r:List TNode),l.length<=k->skip 1 l=some r->∃ t:Ex,t.wf/\l=t.flat++r
 | k,[],r,_,h=>by cases h
 | 0,x::l,r,hk,_=>by simp at hk
 | k+1,x::l,r,hk,h=>by
  have hk:l.length<=k:=by simpa using hk
  have h:(if kids x.op<0 then none else skip (0+(kids x.op).toNat) l)=some r:=h
  have hb:=kids_b x.op
  split at h
  ·cases h
  ·rcases (show kids x.op=0\/kids x.op=1\/kids x.op=2 by omega) with h0 | h0 | h0
   ·rw [h0] at h
    have h:skip 0 l=some r:=h
    rw [skip_z] at h; cases h
    exact ⟨.leaf x,h0,rfl⟩
   ·rw [h0] at h
    obtain ⟨a,ha,rfl⟩:=ex_of k l r hk h
    exact ⟨.un x a,⟨h0,ha⟩,rfl⟩
   ·rw [h0] at h
    have h:skip (1+1) l=some r:=h
    rw [skip_add] at h
    obtain ⟨m,h1,h2⟩:=Option.bind_eq_some_iff.1 h
    obtain ⟨a,ha,rfl⟩:=ex_of k l m hk h1
    obtain ⟨b,hb',rfl⟩:=ex_of k m r (by simp at hk; omega) h2
    exact ⟨.bin x a b,⟨h0,ha,hb'⟩,by simp [Ex.flat]⟩
def AtT (xs:List TNode) (i:Int) (t:Ex):Prop:=0<=i/\t.wf/\∃ r,xs.drop i.toNat=t.flat++r
theorem AtT.root {xs:List TNode} {i:Int} {t:Ex} (h:AtT xs i t):xs[i.toNat]? = some t.root/\i<xs.length:=by
 obtain ⟨h0,_,r,h⟩:=h
 have:(xs.drop i.toNat)[0]? = some t.root:=by rw [h,Ex.flat_kids]; rfl
 rw [List.getElem?_drop,Nat.add_zero] at this
 exact ⟨this,by have:=(List.getElem?_eq_some_iff.1 this).1; omega⟩
theorem AtT.end {xs:List TNode} {i:Int} {t:Ex} (h:AtT xs i t):endM xs i=i+t.size/\i+t.size<=xs.length:=by
 have hlt:=h.root.2
 obtain ⟨h0,hw,r,h⟩:=h
 have hl:=congrArg List.length h
 rw [List.length_drop,List.length_append,Ex.flat_len] at hl
 refine ⟨?_,by omega⟩
 unfold endM
 rw [if_neg (by omega),h,skip_flat t hw 0 r,skip_z]
 unfold stP; simp only []; omega
theorem AtT.of {xs:List TNode} {i:Int} (h:0<=endM xs i):∃ t,AtT xs i t:=by
 unfold endM at h
 split at h
 ·omega
 cases hs:skip 1 (xs.drop i.toNat) with
 | none=>rw [hs] at h; unfold stP at h; simp only [] at h; omega
 | some r=>
  obtain ⟨t,hw,he⟩:=ex_of _ _ r (Nat.le_refl _) hs
  exact ⟨t,by omega,hw,r,he⟩
def lenK (ks:List Ex) (k:Nat):Nat:=((ks.take k).map Ex.size).sum
theorem lenK_succ {ks:List Ex} {k:Nat} {a:Ex} (h:ks[k]? = some a):lenK ks (k+1)=lenK ks k+a.size:=by
 unfold lenK; rw [<- take_snoc h]; simp
theorem AtT.kid {xs:List TNode} {i:Int} {t a:Ex} {k:Nat} (h:AtT xs i t) (ha:t.kidsL[k]? = some a):AtT xs (i+1+lenK t.kidsL k) a:=by
 obtain ⟨h0,hw,r,h⟩:=h
 refine ⟨by omega,(Ex.kid_wf hw (List.mem_of_getElem? ha)).1,?_⟩
 have hs:t.kidsL=t.kidsL.take k++a::t.kidsL.drop (k+1):=by
  obtain ⟨hk,he⟩:=List.getElem?_eq_some_iff.1 ha
  rw [<- he,List.getElem_cons_drop,List.take_append_drop]
 have hl:(((t.kidsL.take k).map Ex.flat).flatten).length=lenK t.kidsL k:=by
  unfold lenK
  rw [List.length_flatten,List.map_map]
  congr 2
  exact funext λ x=>Ex.flat_len x
 have h2:xs.drop (i.toNat+1)=((t.kidsL.take k).map Ex.flat).flatten++(a.flat++(((t.kidsL.drop (k+1)).map Ex.flat).flatten++r)):=by
  rw [<- List.drop_drop,h,Ex.flat_kids t]
  show (t.kidsL.map Ex.flat).flatten++r=_
  conv=>lhs; rw [hs]
  simp
 refine ⟨((t.kidsL.drop (k+1)).map Ex.flat).flatten++r,?_⟩
 rw [show (i+1+(lenK t.kidsL k:Int)).toNat=i.toNat+1+lenK t.kidsL k from by omega,<- List.drop_drop,h2,<- hl,List.drop_left]
def depK (ks:List Ex) (k:Nat):Int:=((ks.take k).map Ex.depth).foldl max 0
theorem depK_succ {ks:List Ex} {k:Nat} {a:Ex} (h:ks[k]? = some a):depK ks (k+1)=max (depK ks k) a.depth:=by
 unfold depK; rw [<- take_snoc h,List.map_append,List.foldl_append]; rfl
theorem depK_b {ks:List Ex} {N:Int} (h0:0<=N) (h:∀ a∈ks,a.depth<=N):∀ k,0<=depK ks k/\depK ks k<=N
 | 0=>by simp [depK,h0]
 | k+1=>by
  have ih:=depK_b h0 h k
  cases hx:ks[k]? with
  | none=>
   have e:ks.take (k+1)=ks.take k:=by rw [List.take_add_one,hx]; simp
   unfold depK at *; rw [e]; exact ih
  | some a=>rw [depK_succ hx]; have:=h a (List.mem_of_getElem? hx); omega
theorem Ex.dep_kids (t:Ex):t.depth=depK t.kidsL t.kidsL.length+1:=by
 cases t with
 | leaf x=>rfl
 | un x a=>have:=a.depth_b; simp only [Ex.depth,Ex.kidsL,depK,List.length_singleton,List.take_succ_cons,List.take_zero,List.map_cons,List.map_nil,List.foldl_cons,List.foldl_nil]; omega
 | bin x a b=>have:=a.depth_b; simp only [Ex.depth,Ex.kidsL,depK,List.length_cons,List.length_nil,List.take_succ_cons,List.take_zero,List.map_cons,List.map_nil,List.foldl_cons,List.foldl_nil]; omega
def stK (ns:List ByteArray) (ks:List Ex) (k:Nat):List TOp:=((ks.take k).map (Ex.steps ns)).flatten
theorem stK_succ {ns:List ByteArray} {ks:List Ex} {k:Nat} {a:Ex} (h:ks[k]? = some a):stK ns ks (k+1)=stK ns ks k++a.steps ns:=by
 unfold stK; rw [<- take_snoc h]; simp
theorem stK_len {ns:List ByteArray} {ks:List Ex} {k:Nat}:(stK ns ks k).length=lenK ks k:=by
 unfold stK lenK
 rw [List.length_flatten,List.map_map]
 congr 2
 exact funext λ x=>Ex.steps_len ns x
theorem Ex.steps_kids (ns:List ByteArray) (t:Ex):t.steps ns=stK ns t.kidsL t.kidsL.length++[⟨t.root.op,Ex.numOf ns t.root⟩]:=by
 cases t <;> simp [Ex.steps,Ex.kidsL,stK,Ex.root]
def pt:Nat->List TNode->Option (Ex × List TNode)
 | 0,_=>none
 | _+1,[]=>none
 | n+1,x::l=>
  if kids x.op=0 then some (.leaf x,l) else if kids x.op=1 then (match pt n l with | some p=>some (.un x p.1,p.2) | none=>none)
  else if kids x.op=2 then (match pt n l with | some p=>(match pt n p.2 with | some q=>some (.bin x p.1 q.1,q.2) | none=>none) | none=>none) else none
theorem pt_flat (t:Ex) (h:t.wf):∀ n r,t.size<=n->pt n (t.flat++r)=some (t,r):=by
 induction t with
 | leaf x=>
  intro n r hn
  cases n with
  | zero=>simp [Ex.size] at hn
  | succ n=>show (if kids x.op=0 then _ else _)=_; rw [if_pos (show kids x.op=0 from h)]; rfl
 | un x a ih=>
  intro n r hn
  cases n with
  | zero=>simp [Ex.size] at hn
  | succ n=>
   have h1:kids x.op=1:=h.1
   show (if kids x.op=0 then _ else if kids x.op=1 then (match pt n (a.flat++r) with | some p=>some (Ex.un x p.1,p.2) | none=>none) else _)=_
   rw [if_neg (by omega),if_pos h1,ih h.2 n r (by simp [Ex.size] at hn; omega)]
 | bin x a b iha ihb=>
  intro n r hn
  cases n with
  | zero=>simp [Ex.size] at hn
  | succ n=>
   have h1:kids x.op=2:=h.1
   show (if kids x.op=0 then _ else if kids x.op=1 then _ else if kids x.op=2 then (match pt n (a.flat++b.flat++r) with | some p=>(match pt n p.2 with | some q=>some (Ex.bin x p.1 q.1,q.2) | none=>none) | none=>none) else _)=_
   rw [if_neg (by omega),if_neg (by omega),if_pos h1,List.append_assoc,iha h.2.1 n _ (by simp [Ex.size] at hn; omega)]
   simp only []
   rw [ihb h.2.2 n _ (by simp [Ex.size] at hn; omega)]
def exOf (l:List TNode):Option Ex:=match pt l.length l with | some p=>if p.2=[] then some p.1 else none | none=>none
theorem exOf_flat {t:Ex} (h:t.wf):exOf t.flat=some t:=by
 unfold exOf
 have:=pt_flat t h t.flat.length [] (by rw [Ex.flat_len]; exact Nat.le_refl _)
 rw [List.append_nil] at this
 rw [this]; rfl
theorem AtT.zero {l:List TNode} {t:Ex} (h:AtT l 0 t) (he:endM l 0=l.length):l=t.flat/\exOf l=some t:=by
 have h1:=h.end
 obtain ⟨_,hw,r,h⟩:=h
 have hl:=congrArg List.length h
 rw [List.length_append,Ex.flat_len] at hl
 simp at hl
 have:r=[]:=List.length_eq_zero_iff.1 (by omega)
 subst this
 have h:l=t.flat:=by simpa using h
 exact ⟨h,by rw [h]; exact exOf_flat hw⟩
theorem pt_sound:∀ n l t r,pt n l=some (t,r)->t.wf/\l=t.flat++r
 | 0,l,t,r,h=>by cases h
 | n+1,[],t,r,h=>by cases h
 | n+1,x::l,t,r,h=>by
  have h:(if kids x.op=0 then some (Ex.leaf x,l) else if kids x.op=1 then (match pt n l with | some p=>some (Ex.un x p.1,p.2) | none=>none)
   else if kids x.op=2 then (match pt n l with | some p=>(match pt n p.2 with | some q=>some (Ex.bin x p.1 q.1,q.2) | none=>none) | none=>none) else none)=some (t,r):=h
  split at h
  ·rename_i hk; cases h; exact ⟨hk,rfl⟩
  ·split at h
   ·rename_i hk
    cases ha:pt n l with
    | none=>rw [ha] at h; cases h
    | some p=>
     rw [ha] at h
     obtain ⟨a,m⟩:=p
     cases h
     obtain ⟨h1,rfl⟩:=pt_sound n l a _ ha
     exact ⟨⟨hk,h1⟩,rfl⟩
   ·split at h
    ·rename_i hk
     cases ha:pt n l with
     | none=>rw [ha] at h; cases h
     | some p=>
      rw [ha] at h
      obtain ⟨a,m⟩:=p
      simp only [] at h
      cases hb:pt n m with
      | none=>rw [hb] at h; cases h
      | some q=>
       rw [hb] at h
       obtain ⟨b,m'⟩:=q
       cases h
       obtain ⟨h1,rfl⟩:=pt_sound n l a _ ha
       obtain ⟨h2,rfl⟩:=pt_sound n m b _ hb
       exact ⟨⟨hk,h1,h2⟩,by simp [Ex.flat]⟩
    ·cases h
theorem exOf_sound {l:List TNode} {t:Ex} (h:exOf l=some t):t.wf/\l=t.flat:=by
 unfold exOf at h
 cases hp:pt l.length l with
 | none=>rw [hp] at h; cases h
 | some p=>
  rw [hp] at h
  obtain ⟨a,r⟩:=p
  simp only [] at h
  split at h
  ·rename_i hr; cases h
   obtain ⟨h1,h2⟩:=pt_sound _ _ _ _ hp
   subst hr
   exact ⟨h1,by simpa using h2⟩
  ·cases h
theorem exOf_end {l:List TNode}:(exOf l).isSome=decide (endM l 0=l.length):=by
 by_cases h:endM l 0=l.length
 ·obtain ⟨t,ht⟩:=AtT.of (xs:=l) (i:=0) (by omega)
  rw [(ht.zero h).2,decide_eq_true h]; rfl
 rw [decide_eq_false h]
 cases he:exOf l with
 | none=>rfl
 | some t=>
  obtain ⟨h1,rfl⟩:=exOf_sound he
  exact absurd (by have:=(show AtT t.flat 0 t from ⟨by omega,h1,[],by simp⟩).end.1; rw [this,Ex.flat_len]; omega) h
def oddN (x:TNode):Bool:=decide (x.at_<0\/4000<x.at_) || decide (¬ x.op=1/\¬ x.n=0) || decide (¬ x.op=2/\¬ x.name=⟨#[]⟩) || decide (x.n<0\/4294967296<x.n) || (decide (x.op=2) && !nameM x.name)
def deepM (l:List TNode):Int:=match exOf l with | some t=>t.depth | none=>0
def rightE (l:List TNode):Bool:=decide (l.length<=40) && (exOf l).isSome && !l.any oddN && decide (deepM l<=12)
def stepsM (ns:List ByteArray) (l:List TNode):List TOp:=match exOf l with | some t=>t.steps ns | none=>[]
def makeE (ns:List ByteArray) (l:List TNode):Int:=if rightE l=false then 8 else if l.any (λ x=>decide (x.op=2) && decide (placeM ns x.name<0)) then 9 else 0
def makeL (ns:List ByteArray) (l:List TNode):List TOp:=if makeE ns l=0 then stepsM ns l else []
theorem rightE_end {l:List TNode} (h:rightE l=true):endM l 0=l.length:=by
 unfold rightE at h
 rw [exOf_end] at h
 grind
inductive Bk where
 | nil
 | cons (x:TStmt) (a b r:Bk)
namespace Bk
def flat:Bk->List TStmt | nil=>[] | cons x a b r=>x::(a.flat++(b.flat++r.flat))
def len:Bk->Nat | nil=>0 | cons _ a b r=>a.len+b.len+r.len+1
def str:Bk->Prop | nil=>True | cons x a b r=>x.body=a.len/\x.els=b.len/\a.len<=40/\b.len<=40/\a.str/\b.str/\r.str
def inn (x:TStmt) (loops:Int):Int:=if x.kind=12 then loops+1 else loops
def blkK (x:TStmt):Bool:=decide (x.kind=11\/x.kind=12)
def okX (x:TStmt) (loops:Int):Bool:=decide ((x.body<=0\/x.kind=11\/x.kind=12)/\(x.els<=0\/x.kind=11)/\(¬ x.kind=13\/¬ loops=0))
def ok:Bk->Int->Bool | nil,_=>true | cons x a b r,n=>okX x n && a.ok (inn x n) && b.ok (inn x n) && r.ok n
def depth:Bk->Int | nil=>0 | cons x a b r=>if blkK x then max (max (1+a.depth) (1+b.depth)) r.depth else r.depth
end Bk
theorem Bk.flat_len (t:Bk):t.flat.length=t.len:=by
 induction t with
 | nil=>rfl
 | cons x a b r iha ihb ihr=>simp only [Bk.flat,Bk.len,List.length_cons,List.length_append,iha,ihb,ihr]; omega
theorem Bk.depth_nn (t:Bk):0<=t.depth/\t.depth<=t.len:=by
 induction t with
 | nil=>simp [Bk.depth,Bk.len]
 | cons x a b r iha ihb ihr=>
  unfold Bk.depth Bk.len
  split <;> omega
def bkF:Nat->List TStmt->Option Bk
 | _,[]=>some .nil
 | 0,_::_=>none
 | n+1,x::l=>
  if 0<=x.body/\0<=x.els/\x.body<=40/\x.els<=40/\x.body+x.els<=l.length then
   match bkF n (l.take x.body.toNat),bkF n ((l.drop x.body.toNat).take x.els.toNat),bkF n (l.drop (x.body.toNat+x.els.toNat)) with
   | some a,some b,some r=>some (.cons x a b r)
   | _,_,_=>none
  else none
theorem bkF_sound:∀ n l t,bkF n l=some t->l=t.flat/\t.str
 | _,[],t,h=>by
  have h:some Bk.nil=some t:=by unfold bkF at h; exact h
  cases h; exact ⟨rfl,trivial⟩
 | 0,x::l,t,h=>by cases h
 | n+1,x::l,t,h=>by
  unfold bkF at h
  split at h
  ·rename_i hb
   obtain ⟨h1,h2,h3,h4,h5⟩:=hb
   cases ha:bkF n (l.take x.body.toNat) with
   | none=>rw [ha] at h; cases h
   | some a=>
    cases hb:bkF n ((l.drop x.body.toNat).take x.els.toNat) with
    | none=>rw [ha,hb] at h; cases h
    | some b=>
     cases hr:bkF n (l.drop (x.body.toNat+x.els.toNat)) with
     | none=>rw [ha,hb,hr] at h; cases h
     | some r=>
      rw [ha,hb,hr] at h
      cases h
      obtain ⟨a1,a2⟩:=bkF_sound n _ _ ha
      obtain ⟨b1,b2⟩:=bkF_sound n _ _ hb
      obtain ⟨r1,r2⟩:=bkF_sound n _ _ hr
      have la:=congrArg List.length a1
      have lb:=congrArg List.length b1
      rw [Bk.flat_len,List.length_take] at la
      rw [Bk.flat_len,List.length_take,List.length_drop] at lb
      refine ⟨?_,by omega,by omega,by omega,by omega,a2,b2,r2⟩
      unfold Bk.flat
      rw [<- a1,<- b1,<- r1,<- List.drop_drop,List.take_append_drop,List.take_append_drop]
  ·cases h
theorem bkF_full (t:Bk):t.str->∀ n,t.len<=n->bkF n t.flat=some t:=by
 induction t with
 | nil=>intro _ n _; cases n <;> rfl
 | cons x a b r iha ihb ihr=>
  intro h n hn
  obtain ⟨h1,h2,h3,h4,ha,hb,hr⟩:=h
  cases n with
  | zero=>simp [Bk.len] at hn
  | succ n=>
   have hn:a.len+b.len+r.len<=n:=by simp [Bk.len] at hn; omega
   have la:=a.flat_len
   have lb:=b.flat_len
   unfold Bk.flat bkF
   rw [if_pos ⟨by omega,by omega,by omega,by omega,by simp [la,lb]; omega⟩,show x.body.toNat=a.flat.length from by omega,List.take_left,List.drop_left,show x.els.toNat=b.flat.length from by omega,List.take_left,<- List.drop_drop,List.drop_left,List.drop_left,
    iha ha n (by omega),ihb hb n (by omega),ihr hr n (by omega)]
def bkOf (l:List TStmt):Option Bk:=bkF l.length l
theorem bkOf_sound {l:List TStmt} {t:Bk} (h:bkOf l=some t):l=t.flat/\t.str:=bkF_sound _ _ _ h
theorem bkOf_flat {t:Bk} (h:t.str):bkOf t.flat=some t:=bkF_full t h _ (by rw [Bk.flat_len]; exact Nat.le_refl _)
def deepS (l:List TStmt) (loops:Int):Int:=match bkOf l with | some t=>if t.ok loops then t.depth else -1 | none=>-1
theorem deepS_nil (loops:Int):deepS [] loops=0:=rfl
theorem deepS_b (l:List TStmt) (loops:Int) : -1<=deepS l loops/\deepS l loops<=l.length:=by
 unfold deepS
 cases h:bkOf l with
 | none=>simp only []; omega
 | some t=>
  obtain ⟨rfl,_⟩:=bkOf_sound h
  have:=t.depth_nn
  simp only [Bk.flat_len]
  split <;> omega
def sizeX (x:TStmt) (l:List TStmt):Prop:=0<=x.body/\0<=x.els/\x.body<=40/\x.els<=40/\x.body+x.els<=l.length
theorem deepS_bad {x:TStmt} {l:List TStmt} {loops:Int} (h:¬ (sizeX x l/\Bk.okX x loops=true)):deepS (x::l) loops = -1:=by
 unfold deepS
 cases hb:bkOf (x::l) with
 | none=>rfl
 | some t=>
  obtain ⟨he,hs⟩:=bkOf_sound hb
  cases t with
  | nil=>cases he
  | cons y a b r=>
   obtain ⟨rfl,rfl⟩:=List.cons.inj he
   obtain ⟨h1,h2,h3,h4,_⟩:=hs
   have:Bk.okX x loops=false:=by
    cases hk:Bk.okX x loops with
    | false=>rfl
    | true=>exact absurd ⟨⟨by omega,by omega,by omega,by omega,by simp [Bk.flat_len]; omega⟩,hk⟩ h
   have h:(Bk.cons x a b r).ok loops=false:=by unfold Bk.ok; rw [this]; rfl
   simp only [h]; rfl
theorem deepS_cons {x:TStmt} {l:List TStmt} {loops:Int} (h:sizeX x l) (ho:Bk.okX x loops=true) :
  deepS (x::l) loops=(let A:=deepS (l.take x.body.toNat) (Bk.inn x loops); let B:=deepS ((l.drop x.body.toNat).take x.els.toNat) (Bk.inn x loops); let R:=deepS (l.drop (x.body.toNat+x.els.toNat)) loops
   if A<0\/B<0\/R<0 then -1 else if Bk.blkK x then max (max (1+A) (1+B)) R else R):=by
 obtain ⟨h1,h2,h3,h4,h5⟩:=h
 have e:l=l.take x.body.toNat++((l.drop x.body.toNat).take x.els.toNat++l.drop (x.body.toNat+x.els.toNat)):=by
  rw [<- List.drop_drop,List.take_append_drop,List.take_append_drop]
 have la:(l.take x.body.toNat).length=x.body.toNat:=by rw [List.length_take]; omega
 have lb:((l.drop x.body.toNat).take x.els.toNat).length=x.els.toNat:=by rw [List.length_take,List.length_drop]; omega
 simp only []
 have key:∀ t,bkOf (x::l)=some t->∃ a b r,t = .cons x a b r/\bkOf (l.take x.body.toNat)=some a/\bkOf ((l.drop x.body.toNat).take x.els.toNat)=some b/\bkOf (l.drop (x.body.toNat+x.els.toNat))=some r:=by
  intro t ht
  obtain ⟨he,hs⟩:=bkOf_sound ht
  cases t with
  | nil=>cases he
  | cons y a b r=>
   obtain ⟨rfl,hl⟩:=List.cons.inj he
   obtain ⟨g1,g2,_,_,ha,hb,hr⟩:=hs
   have q1:x.body.toNat=a.flat.length:=by rw [Bk.flat_len]; omega
   have q2:x.els.toNat=b.flat.length:=by rw [Bk.flat_len]; omega
   refine ⟨a,b,r,rfl,?_,?_,?_⟩
   ·rw [hl,q1,List.take_left]; exact bkOf_flat ha
   ·rw [hl,q1,q2,List.drop_left,List.take_left]; exact bkOf_flat hb
   ·rw [hl,<- List.drop_drop,q1,q2,List.drop_left,List.drop_left]; exact bkOf_flat hr
 cases ha:bkOf (l.take x.body.toNat) with
 | none=>
  have:bkOf (x::l)=none:=by
   cases hh:bkOf (x::l) with
   | none=>rfl
   | some t=>obtain ⟨a,b,r,_,q,_⟩:=key t hh; rw [ha] at q; cases q
  unfold deepS; rw [this,ha]; simp
 | some a=>
  cases hb:bkOf ((l.drop x.body.toNat).take x.els.toNat) with
  | none=>
   have:bkOf (x::l)=none:=by
    cases hh:bkOf (x::l) with
    | none=>rfl
    | some t=>obtain ⟨a,b,r,_,_,q,_⟩:=key t hh; rw [hb] at q; cases q
   unfold deepS; rw [this,hb]; simp
  | some b=>
   cases hr:bkOf (l.drop (x.body.toNat+x.els.toNat)) with
   | none=>
    have:bkOf (x::l)=none:=by
     cases hh:bkOf (x::l) with
     | none=>rfl
     | some t=>obtain ⟨a,b,r,_,_,_,q⟩:=key t hh; rw [hr] at q; cases q
    unfold deepS; rw [this,hr]; simp
   | some r=>
    obtain ⟨a1,a2⟩:=bkOf_sound ha
    obtain ⟨b1,b2⟩:=bkOf_sound hb
    obtain ⟨r1,r2⟩:=bkOf_sound hr
    have hl:x::l=(Bk.cons x a b r).flat:=by unfold Bk.flat; rw [<- a1,<- b1,<- r1,<- e]
    rw [a1,Bk.flat_len] at la
    rw [b1,Bk.flat_len] at lb
    have:bkOf (x::l)=some (.cons x a b r):=by rw [hl]; exact bkOf_flat ⟨by omega,by omega,by omega,by omega,a2,b2,r2⟩
    have na:=a.depth_nn
    have nb:=b.depth_nn
    have nr:=r.depth_nn
    unfold deepS
    rw [this,ha,hb,hr]
    simp only [Bk.ok,ho,Bool.true_and]
    cases h1:a.ok (Bk.inn x loops) <;> cases h2:b.ok (Bk.inn x loops) <;> cases h3:r.ok loops <;> simp [Bk.depth]
    split <;> omega
def combD (n d:Int):Int:=if d<0 then -1 else max n d
theorem dS_bad {xs l:List TStmt} {x:TStmt} {loops n:Int} (h:deepS xs loops=combD n (deepS (x::l) loops)) (hb:¬ (sizeX x l/\Bk.okX x loops=true)):deepS xs loops = -1:=by
 rw [h,deepS_bad hb]; rfl
theorem dS_blk {xs l:List TStmt} {x:TStmt} {loops n:Int} (h:deepS xs loops=combD n (deepS (x::l) loops)) (hs:sizeX x l) (ho:Bk.okX x loops=true) (hb:Bk.blkK x=true) (A B:Int)
  (hA:A=deepS (l.take x.body.toNat) (Bk.inn x loops)) (hB:B=deepS ((l.drop x.body.toNat).take x.els.toNat) (Bk.inn x loops)) :
  (A<0\/B<0->deepS xs loops = -1)/\(¬ (A<0\/B<0)->deepS xs loops=combD (max (max n (1+A)) (1+B)) (deepS (l.drop (x.body.toNat+x.els.toNat)) loops)):=by
 have hR:=deepS_b (l.drop (x.body.toNat+x.els.toNat)) loops
 rw [h,deepS_cons hs ho]
 simp only [<- hA,<- hB,hb,if_true]
 unfold combD
 constructor <;> intro h <;> repeat' split
 all_goals omega
theorem dS_no {xs l:List TStmt} {x:TStmt} {loops n:Int} (h:deepS xs loops=combD n (deepS (x::l) loops)) (hs:sizeX x l) (ho:Bk.okX x loops=true) (hb:Bk.blkK x=false) :
  deepS xs loops=combD n (deepS (l.drop (x.body.toNat+x.els.toNat)) loops):=by
 have h0:x.body=0/\x.els=0:=by
  unfold Bk.okX at ho
  unfold Bk.blkK at hb
  obtain ⟨h1,h2,_⟩:=hs
  have ho:=of_decide_eq_true ho
  have hb:=of_decide_eq_false hb
  omega
 rw [h,deepS_cons hs ho,h0.1,h0.2]
 have e1:l.take (Int.toNat 0)=[]:=rfl
 have e2:(l.drop (Int.toNat 0)).take (Int.toNat 0)=[]:=rfl
 simp only [hb,e1,e2,deepS_nil]
 unfold combD
 repeat' split
 all_goals first | omega | simp_all
theorem drop_cons {α:Type} {xs:List α} {k:Nat} {x:α} (h:xs[k]? = some x):xs.drop k=x::xs.drop (k+1):=by
 obtain ⟨h1,h2⟩:=List.getElem?_eq_some_iff.1 h
 rw [List.drop_eq_getElem_cons h1,h2]
theorem cut_at {α:Type} (xs:List α) {a b c n:Nat} (h:b=a+n) (hc:c=a):(xs.take b).drop c=(xs.drop a).take n:=by
 subst h hc; rw [List.drop_take,Nat.add_sub_cancel_left]
def hasL:List ByteArray:=[⟨#[]⟩,⟨#[114,101]⟩,⟨#[114,110]⟩,⟨#[110,101]⟩,⟨#[114,110,101,102]⟩,⟨#[110]⟩,⟨#[110]⟩,⟨#[]⟩,⟨#[]⟩,⟨#[110]⟩,⟨#[110]⟩,⟨#[101,98]⟩,⟨#[107,98]⟩,⟨#[]⟩,⟨#[101]⟩]
def hasS (k:Int):ByteArray:=if k<1\/14<k then ⟨#[]⟩ else hasL.getD k.toNat ⟨#[]⟩
def amongM (s:ByteArray) (c:Int):Bool:=(bts s).any λ b=>decide ((b.toNat:Int)=c)
def fitsM (x:TStmt):Bool:=
 !(decide (x.kind<1) || decide (14<x.kind) || decide (x.at_<0) || decide (4000<x.at_)) &&
 !((amongM (hasS x.kind) 114 != nameM x.reg) || (!amongM (hasS x.kind) 114 && decide (¬ x.reg=⟨#[]⟩)) || (amongM (hasS x.kind) 110 != nameM x.name) || (!amongM (hasS x.kind) 110 && decide (¬ x.name=⟨#[]⟩))) &&
 !((amongM (hasS x.kind) 101 != rightE x.e) || (!amongM (hasS x.kind) 101 && decide (0<x.e.length)) || (amongM (hasS x.kind) 102 != rightE x.f) || (!amongM (hasS x.kind) 102 && decide (0<x.f.length))) &&
 (if amongM (hasS x.kind) 107=true then decide (1<=x.n/\x.n<=8) else decide (x.n=0))
def rightS (l:List TStmt):Bool:=decide (l.length<=40) && !l.any (λ x=>!fitsM x) && decide (0<=deepS l 0/\deepS l 0<=12)
def placeOk (n:Int):Bool:=decide (0<=n/\n<=4000)
def oddCell (most:Int) (c:TCell):Bool:=!nameM c.name || decide (c.n<0) || decide (most<c.n) || !placeOk c.at_
def cellsM (most:Int) (l:List TCell):Bool:=!l.any (oddCell most)
def oddTh0 (nb:Bool) (t:TThread):Bool:=(nb != nameM t.name) || (!nb && decide (¬ t.name=⟨#[]⟩)) || !placeOk t.at_ || !rightS t.body
def oddTh (nb:Bool) (t:TThread):Bool:=oddTh0 nb t || t.regs.any (λ s=>!nameM s)
def threadsM (nb:Bool) (l:List TThread):Bool:=!l.any (oddTh nb)
def oddLine (l:List TCell):Bool:=decide ((l.length:Int)=0) || !cellsM 4294967296 l
def oddClaim (c:TClaim):Bool:=!placeOk c.at_ || !rightE c.e
def rightP (p:TProg):Bool:=!p.lines.any oddLine && !p.claims.any oddClaim && (cellsM 4294967296 p.vols && cellsM 0 p.locks && threadsM true p.threads && threadsM false p.recover && decide (p.recover.length<=1))
def SzS (x:TStmt):Prop:=x.reg.size<=1048576/\x.name.size<=1048576/\x.e.length<=1048576/\x.f.length<=1048576/\(∀ y∈x.e,y.name.size<=1048576)/\(∀ y∈x.f,y.name.size<=1048576)
def SzT (t:TThread):Prop:=t.name.size<=1048576/\(∀ s∈t.regs,s.size<=1048576)/\(∀ x∈t.body,SzS x)
structure PZ (p:TProg):Prop extends PS p where
 zl:∀ l∈p.lines,∀ c∈l,c.name.size<=1048576
 zv:∀ c∈p.vols,c.name.size<=1048576
 zk:∀ c∈p.locks,c.name.size<=1048576
 zt:∀ t∈p.threads,SzT t
 zr:∀ t∈p.recover,SzT t
 zc:∀ c∈p.claims,c.e.length<=1048576/\∀ y∈c.e,y.name.size<=1048576
variable (w:World) (K:Value->World->Prop)
def S161 (c0:Value):Prop:=
 Join1 (λ K1=>bB .geq 5 c0 (.int .u8 97) λ a=>cV a (bB .leq 5 c0 (.int .u8 122) λ b=>cV b (K1 tt w) (bB .eql 5 c0 (.int .u8 95) λ c=>K1 c w)) (bB .eql 5 c0 (.int .u8 95) λ d=>
 K1 d w)) (λ e f=>∀ _:Env,
 K e f)
theorem S161_ok (c0:Value) (h:S161 w K c0):CR 161 [c0] w K:=
 okG 13 (λ _=>.nil) 4 [.tmp 2] Tryz.func161 h
def S165 (c0:Value):Prop:=
 Join1 (λ K1=>bB .geq 5 c0 (.int .u8 48) λ a=>cV a (bB .leq 5 c0 (.int .u8 57) λ b=>K1 b w) (K1 ff w)) (λ c d=>∀ _:Env,
 K c d)
theorem S165_ok (c0:Value) (h:S165 w K c0):CR 165 [c0] w K:=
 okG 9 (λ _=>.nil) 4 [.tmp 2] Tryz.func165 h
def S163 (s0 so1:Value):Prop:=
 Loop1 (λ K1 n5 a=>∀ _:Env,
 Join1 (λ K2=>lN 9 s0 λ b=>bA .lss 3 n5 b λ c=>cV c (Pop Tryz.prog (Instr.index 9 s0 n5) λ d=>CallV Tryz.prog so1 [d] a λ e f=>K2 e f) (K2 ff a)) (λ g h=>∀ _:Env,
 cV g (bB .add 3 n5 (i 1) λ j=>K1 j h) (K n5 h))) (λ K1=>K1 (i 0) w)
theorem S163_ok (s0 so1:Value) (h:S163 w K s0 so1):CR 163 [s0,so1] w K:=
 okG 20 (λ _=>.nil) 16 [.tmp 4] Tryz.func163 h
def S164 (c0:Value):Prop:=
 Join1 (λ K1=>cF 161 [c0] w λ a b=>cV a (K1 tt b) (cF 165 [c0] b λ c d=>K1 c d)) (λ e f=>∀ _:Env,
 K e f)
theorem S164_ok (c0:Value) (h:S164 w K c0):CR 164 [c0] w K:=
 okG 9 (λ _=>.nil) 4 [.tmp 2] Tryz.func164 h
def S162 (s0:Value):Prop:=
 cF 198 [] w λ a b=>Qop Tryz.prog (Instr.lookup 281 a s0 false) b λ c=>K c b
theorem S162_ok (s0:Value) (h:S162 w K s0):CR 162 [s0] w K:=
 okG 6 (λ _=>.nil) 4 [.tmp 2] Tryz.func162 h
def S118 (s0:Value):Prop:=
 Join1 (λ K1=>Pop Tryz.prog (binS .eql 9 false true s0 (Go.Value.string (ByteArray.mk (#[])))) λ a=>cV a (K1 tt w) (lN 9 s0 λ b=>bB .gtr 3 b (i 16) λ c=>cV c (K1 tt w) (
 Pop Tryz.prog (Instr.index 9 s0 (i 0)) λ d=>cF 161 [d] w λ e f=>Pop Tryz.prog (Op.unary .not e) λ g=>cV g (K1 tt f) (cF 162 [s0] f λ h j=>K1 h j)))) (λ k l=>∀ _:Env,
 cV k (K ff l) (cF 163 [s0,(.func (.func 164) #[] #[])] l λ n o=>lN 9 s0 λ p=>bA .eql 3 n p λ q=>K q o))
theorem S118_ok (s0:Value) (h:S118 w K s0):CR 118 [s0] w K:=
 okG 25 (λ _=>.nil) 4 [.tmp 2] Tryz.func118 h
def S204 (op0:Value):Prop:=
 Join1 (λ K1=>bB .eql 3 op0 (i 1) λ a=>cV a (K1 tt w) (bB .eql 3 op0 (i 2) λ b=>K1 b w)) (λ c d=>∀ _:Env,
 cV c (K (i 0) d) (Join1 (λ K2=>bB .eql 3 op0 (i 3) λ e=>cV e (K2 tt d) (bB .eql 3 op0 (i 4) λ f=>K2 f d)) (λ g h=>∀ _:Env,
 cV g (K (i 1) h) (Join1 (λ K3=>bB .geq 3 op0 (i 5) λ j=>cV j (bB .leq 3 op0 (i 15) λ k=>K3 k h) (K3 ff h)) (λ l n=>∀ _:Env,
 cV l (K (i 2) n) (K (i (-1)) n))))))
theorem S204_ok (op0:Value) (h:S204 w K op0):CR 204 [op0] w K:=
 okG 24 (λ _=>.nil) 4 [.tmp 2] Tryz.func204 h
def S170 (a:Value):Prop:=
 Eop Tryz.prog (Instr.box 26 a) w λ b c=>Join1 (λ K1=>fA 26 b 3 λ d=>lA 3 d c λ e=>bB .lss 3 e (i 0) λ f=>cV f (K1 tt c) (fA 26 b 3 λ g=>lA 3 g c λ h=>bB .gtr 3 h (i 4000) λ j=>
 K1 j c)) (λ k l=>∀ _:Env,
 cV k (K ff l) (fA 26 b 0 λ n=>lA 3 n l λ o=>bB .eql 3 o (i 1) λ p=>cV p (Join1 (λ K2=>fA 26 b 1 λ q=>lA 3 q l λ r=>bB .geq 3 r (i 0) λ s=>cV s (fA 26 b 1 λ t=>
 lA 3 t l λ u=>bB .leq 3 u (i 4294967296) λ v=>cV v (fA 26 b 2 λ x=>lA 9 x l λ y=>Pop Tryz.prog (binS .eql 9 false true y (Go.Value.string (ByteArray.mk (#[])))) λ z=>
 K2 z l) (K2 ff l)) (K2 ff l)) (λ aa ab=>∀ _:Env,
 K aa ab)) (fA 26 b 0 λ ac=>lA 3 ac l λ ad=>bB .eql 3 ad (i 2) λ ae=>cV ae (Join1 (λ K3=>fA 26 b 1 λ af=>lA 3 af l λ ag=>bB .eql 3 ag (i 0) λ ah=>cV ah (fA 26 b 2 λ ai=>
 lA 9 ai l λ aj=>cF 118 [aj] l λ ak al=>K3 ak al) (K3 ff l)) (λ am an=>∀ _:Env,
 K am an)) (Join1 (λ K4=>fA 26 b 1 λ ao=>lA 3 ao l λ ap=>bB .eql 3 ap (i 0) λ aq=>cV aq (fA 26 b 2 λ ar=>lA 9 ar l λ asx=>Pop Tryz.prog (binS .eql 9 false true asx (Go.Value.string (ByteArray.mk (#[])))) λ au=>
 K4 au l) (K4 ff l)) (λ av aw=>∀ _:Env,
 K av aw)))))
theorem S170_ok (x0:Value) (h:S170 w K x0):CR 170 [x0] w K:=
 okG 49 (λ _=>.nil) 4 [.tmp 2] Tryz.func170 h
def S169 (a:Value):Prop:=
 Eop Tryz.prog (Instr.box 26 a) w λ b c=>lA 26 b c λ d=>cF 170 [d] c λ e f=>Pop Tryz.prog (Op.unary .not e) λ g=>K g f
theorem S169_ok (x0:Value) (h:S169 w K x0):CR 169 [x0] w K:=
 okG 6 (λ _=>.nil) 4 [.tmp 2] Tryz.func169 h
def S172 (l0 i1:Value):Prop:=
 Loop2 (λ K1 i1_1 want5 a=>∀ _:Env,
 bB .gtr 3 want5 (i 0) λ b=>cV b (Join1 (λ K2=>bB .lss 3 i1_1 (i 0) λ c=>cV c (K2 tt a) (lN 22 l0 λ d=>bA .geq 3 i1_1 d λ e=>cV e (K2 tt a) (iA 22 l0 i1_1 λ f=>fA 26 f 0 λ g=>
 lA 3 g a λ h=>cF 204 [h] a λ j k=>bB .eql 3 j (i (-1)) λ l=>K2 l k))) (λ n o=>∀ _:Env,
 cV n (K (i (-1)) o) (iA 22 l0 i1_1 λ p=>fA 26 p 0 λ q=>lA 3 q o λ r=>cF 204 [r] o λ s t=>bA .add 3 want5 s λ u=>bB .add 3 i1_1 (i 1) λ v=>bB .sub 3 u (i 1) λ x=>
 K1 v x t))) (K i1_1 a)) (λ K1=>K1 i1 (i 1) w)
theorem S172_ok (l0 i1:Value) (h:S172 w K l0 i1):CR 172 [l0,i1] w K:=
 okG 38 (λ _=>.nil) 16 [.tmp 4] Tryz.func172 h
def S205 (l0 i1:Value):Prop:=
 bB .add 3 i1 (i 1) λ a=>iA 22 l0 i1 λ b=>fA 26 b 0 λ c=>lA 3 c w λ d=>cF 204 [d] w λ e f=>Loop3 (λ K1 out5 at6 g h=>∀ _:Env,
 bA .lss 3 g e λ j=>cV j (bS 45 1 [(0,at6)] h λ k l=>aP 45 out5 k l λ n o=>cF 172 [l0,at6] o λ p q=>bB .add 3 g (i 1) λ r=>K1 n p r q) (K out5 h)) (λ K1=>K1 (.slice none 0 0) a (i 0) f)
theorem S205_ok (l0 i1:Value) (h:S205 w K l0 i1):CR 205 [l0,i1] w K:=
 okG 26 (λ _=>.nil) 16 [.tmp 4] Tryz.func205 h
def S173 (l0 i1:Value):Prop:=
 cF 205 [l0,i1] w λ a b=>lN 45 a λ c=>Loop2 (λ K1 n5 d e=>∀ _:Env,
 bA .lss 3 d c λ f=>cV f (iA 45 a d λ g=>lA 3 g e λ h=>cF 173 [l0,h] e λ j k=>Pop Tryz.prog (Builtin.max_ #[3,3] 3 [n5,j].toArray) λ l=>bB .add 3 d (i 1) λ n=>
 K1 l n k) (bB .add 3 n5 (i 1) λ o=>K o e)) (λ K1=>K1 (i 0) (i 0) b)
theorem S173_ok (l0 i1:Value) (h:S173 w K l0 i1):CR 173 [l0,i1] w K:=
 okG 24 (λ _=>.nil) 16 [.tmp 4] Tryz.func173 h
def S123 (l0:Value):Prop:=
 Join1 (λ K1=>lN 22 l0 λ a=>bB .eql 3 a (i 0) λ b=>cV b (K1 tt w) (lN 22 l0 λ c=>bB .gtr 3 c (i 40) λ d=>cV d (K1 tt w) (cF 171 [l0,(.func (.func 169) #[] #[])] w λ e f=>
 cV e (K1 tt f) (cF 172 [l0,(i 0)] f λ g h=>lN 22 l0 λ j=>bA .neq 3 g j λ k=>K1 k h)))) (λ l n=>∀ _:Env,
 cV l (K ff n) (cF 173 [l0,(i 0)] n λ o p=>bB .leq 3 o (i 12) λ q=>K q p))
theorem S123_ok (l0:Value) (h:S123 w K l0):CR 123 [l0] w K:=
 okG 27 (λ _=>.nil) 4 [.tmp 2] Tryz.func123 h
def S187 (l0:Value):Prop:=
 cF 123 [l0] w λ a b=>Pop Tryz.prog (Op.unary .not a) λ c=>cV c (K (.slice none 0 0) b) (lN 22 l0 λ d=>Loop2 (λ K1 out3 e f=>∀ _:Env,
 bA .lss 3 e d λ g=>cV g (Join1 (λ K2=>iA 22 l0 e λ h=>lA 26 h f λ j=>aL 26 f λ k l=>sA 26 k j l λ n=>Join1 (λ K3=>fA 26 k 0 λ o=>lA 3 o n λ p=>bB .eql 3 p (i 2) λ q=>
 cV q (fA 26 k 2 λ r=>lA 9 r n λ s=>cF 186 [out3,s] n λ t u=>Pop Tryz.prog (Op.unary .not t) λ v=>K3 v u) (K3 ff n)) (λ x y=>∀ _:Env,
 cV x (fA 26 k 2 λ z=>lA 9 z y λ aa=>bS 32 1 [(0,aa)] y λ ab ac=>aP 32 out3 ab ac λ ad ae=>K2 ad ae) (K2 out3 y))) (λ out3_1 af=>∀ _:Env,
 bB .add 3 e (i 1) λ ag=>K1 out3_1 ag af)) (K out3 f)) (λ K1=>K1 (.slice none 0 0) (i 0) b))
theorem S187_ok (l0:Value) (h:S187 w K l0):CR 187 [l0] w K:=
 okG 32 (λ _=>.nil) 4 [.tmp 2] Tryz.func187 h
def S188 (l0 i1 names2:Value):Prop:=
 bB .add 3 i1 (i 1) λ a=>iA 22 l0 i1 λ b=>fA 26 b 0 λ c=>lA 3 c w λ d=>cF 190 [d] w λ e f=>Loop3 (λ K1 out7 at8 g h=>∀ _:Env,
 bA .lss 3 g e λ j=>cV j (cF 188 [l0,at8,names2] h λ k l=>aP 233 out7 k l λ n o=>cF 172 [l0,at8] o λ p q=>bB .add 3 g (i 1) λ r=>K1 n p r q) (iA 22 l0 i1 λ s=>
 fA 26 s 0 λ t=>lA 3 t (drew h) λ u=>iA 22 l0 i1 λ v=>fA 26 v 1 λ x=>lA 3 x (drew h) λ y=>Pop Tryz.prog (Instr.build 274 [(0,u),(1,y)].toArray) λ z=>aL 274 (drew h) λ aa ab=>
 kA 3 t u ab (kA 3 x y ab (sA 274 aa z ab λ ac=>Join0 (λ K2=>fA 274 aa 0 λ ad=>lA 3 ad ac λ ae=>bB .eql 3 ae (i 2) λ af=>cV af (iA 22 l0 i1 λ ag=>fA 26 ag 2 λ ah=>
 lA 9 ah ac λ ai=>cF 138 [names2,ai] ac λ aj ak=>fA 274 aa 1 λ al=>sA 3 al aj ak λ am=>K2 am) (K2 ac)) (λ an=>∀ _:Env,
 lA 274 aa an λ ao=>bS 233 1 [(0,ao)] an λ ap aq=>aP 233 out7 ap aq λ ar asx=>K ar asx))))) (λ K1=>K1 (.slice none 0 0) a (i 0) f)
def P188:Plans:=λ i=>match i with
 | 8=>(.of [(0,[]),(1,[]),(2,[]),(3,[]),(4,[]),(5,[]),(6,[]),(7,[]),(8,[]),(9,[]),(10,[]),(11,[4,9]),(12,[])])
 | _=>.nil
theorem S188_ok (l0 i1 names2:Value) (h:S188 w K l0 i1 names2):CR 188 [l0,i1,names2] w K:=
 okG 56 P188 64 [.tmp 6] Tryz.func188 h
def S153 (l0 names1:Value):Prop:=
 Eop Tryz.prog (Instr.box 32 names1) w λ names3 a=>cF 123 [l0] a λ b c=>Pop Tryz.prog (Op.unary .not b) λ d=>cV d (K (.tuple #[(.slice none 0 0),(i 8)]) c) (cF 187 [l0] c λ e f=>
 cF 167 [e,(.func (Go.Fn.func 185) [].toArray [names3].toArray)] f λ g h=>cV g (K (.tuple #[(.slice none 0 0),(i 9)]) h) (lA 32 names3 h λ j=>cF 188 [l0,(i 0),j] h λ k l=>
 K (.tuple #[k,(i 0)]) l))
theorem S153_ok (l0 names1:Value) (h:S153 w K l0 names1):CR 153 [l0,names1] w K:=
 okG 18 (λ _=>.nil) 48 [.tmp 4,.tmp 5] Tryz.func153 h
def S185 (s0 a:Value):Prop:=
 lA 32 a w λ b=>cF 186 [b,s0] w λ c d=>Pop Tryz.prog (Op.unary .not c) λ e=>K e d
theorem S185_ok (s0 x1:Value) (h:S185 w K s0 x1):CR 185 [s0,x1] w K:=
 okG 8 (λ _=>.nil) 8 [.tmp 3] Tryz.func185 h
def S99 (l0 names1 nums2:Value):Prop:=
 lN 32 names1 λ a=>lN 45 nums2 λ b=>bA .neq 3 a b λ c=>cV c (K (.tuple #[(i 0),(i 1)]) w) (cF 153 [l0,names1] w λ d e=>xT d 0 λ f=>xT d 1 λ g=>bB .neq 29 g (i 0) λ h=>
 cV h (K (.tuple #[(i 0),g]) e) (cF 154 [f,nums2] e λ j k=>xT j 0 λ l=>xT j 1 λ n=>K (.tuple #[l,n]) k))
theorem S99_ok (l0 names1 nums2:Value) (h:S99 w K l0 names1 nums2):CR 99 [l0,names1,nums2] w K:=
 okG 29 (λ _=>.nil) 192 [.tmp 6,.tmp 7] Tryz.func99 h
def S171 (s0 f1:Value):Prop:=
 cF 203 [s0,f1] w λ a b=>bB .geq 3 a (i 0) λ c=>K c b
theorem S171_ok (s0 f1:Value) (h:S171 w K s0 f1):CR 171 [s0,f1] w K:=
 okG 9 (λ _=>.nil) 16 [.tmp 4] Tryz.func171 h
def S203 (s0 f1:Value):Prop:=
 lN 22 s0 λ a=>Loop1 (λ K1 b c=>∀ _:Env,
 bA .lss 3 b a λ d=>cV d (iA 22 s0 b λ e=>lA 26 e c λ f=>CallV Tryz.prog f1 [f] c λ g h=>cV g (K b h) (bB .add 3 b (i 1) λ j=>K1 j h)) (K (i (-1)) c)) (λ K1=>K1 (i 0) w)
theorem S203_ok (s0 f1:Value) (h:S203 w K s0 f1):CR 203 [s0,f1] w K:=
 okG 19 (λ _=>.nil) 16 [.tmp 4] Tryz.func203 h
def S167 (s0 f1:Value):Prop:=
 cF 199 [s0,f1] w λ a b=>bB .geq 3 a (i 0) λ c=>K c b
theorem S167_ok (s0 f1:Value) (h:S167 w K s0 f1):CR 167 [s0,f1] w K:=
 okG 9 (λ _=>.nil) 16 [.tmp 4] Tryz.func167 h
def S199 (s0 f1:Value):Prop:=
 lN 32 s0 λ a=>Loop1 (λ K1 b c=>∀ _:Env,
 bA .lss 3 b a λ d=>cV d (iA 32 s0 b λ e=>lA 9 e c λ f=>CallV Tryz.prog f1 [f] c λ g h=>cV g (K b h) (bB .add 3 b (i 1) λ j=>K1 j h)) (K (i (-1)) c)) (λ K1=>K1 (i 0) w)
theorem S199_ok (s0 f1:Value) (h:S199 w K s0 f1):CR 199 [s0,f1] w K:=
 okG 19 (λ _=>.nil) 16 [.tmp 4] Tryz.func199 h
def S186 (s0 v1:Value):Prop:=
 cF 138 [s0,v1] w λ a b=>bB .geq 3 a (i 0) λ c=>K c b
theorem S186_ok (s0 v1:Value) (h:S186 w K s0 v1):CR 186 [s0,v1] w K:=
 okG 9 (λ _=>.nil) 16 [.tmp 4] Tryz.func186 h
def S138 (s0 v1:Value):Prop:=
 lN 32 s0 λ a=>Loop1 (λ K1 b c=>∀ _:Env,
 bA .lss 3 b a λ d=>cV d (iA 32 s0 b λ e=>lA 9 e c λ f=>bA .eql 9 v1 f λ g=>cV g (K b c) (bB .add 3 b (i 1) λ h=>K1 h c)) (K (i (-1)) c)) (λ K1=>K1 (i 0) w)
theorem S138_ok (s0 v1:Value) (h:S138 w K s0 v1):CR 138 [s0,v1] w K:=
 okG 19 (λ _=>.nil) 16 [.tmp 4] Tryz.func138 h
theorem pl161:PL 161:=plE Tryz.func161
theorem pl165:PL 165:=plE Tryz.func165
theorem pl163:PL 163:=plE Tryz.func163
theorem pl164:PL 164:=plE Tryz.func164
theorem pl162:PL 162:=plE Tryz.func162
theorem pl118:PL 118:=plE Tryz.func118
theorem pl204:PL 204:=plE Tryz.func204
theorem pl170:PL 170:=plE Tryz.func170
theorem pl169:PL 169:=plE Tryz.func169
theorem pl172:PL 172:=plE Tryz.func172
theorem pl205:PL 205:=plE Tryz.func205
theorem pl173:PL 173:=plE Tryz.func173
theorem pl123:PL 123:=plE Tryz.func123
theorem pl187:PL 187:=plE Tryz.func187
theorem pl188:PL 188:=plE Tryz.func188
theorem pl153:PL 153:=plE Tryz.func153
theorem pl185:PL 185:=plE Tryz.func185
theorem pl99:PL 99:=plE Tryz.func99
theorem pl171:PL 171:=plE Tryz.func171
theorem pl203:PL 203:=plE Tryz.func203
theorem pl167:PL 167:=plE Tryz.func167
theorem pl199:PL 199:=plE Tryz.func199
theorem pl186:PL 186:=plE Tryz.func186
theorem pl138:PL 138:=plE Tryz.func138
end Go.Proofs.YtfkgkbhbdffckaaGreatDoor
namespace Go.Proofs.YtfkgkbhbdffckaaGreatDoor
open Go.Fw
theorem bld274_0_1 (a0:Int) (a1:Int):pr Tryz.prog (Instr.build 274 [(0,.int .i64 a0),(1,.int .i64 a1)].toArray)=some (.agg [.int .i64 a0,.int .i64 a1].toArray):=by kernel_rfl
end Go.Proofs.YtfkgkbhbdffckaaGreatDoor
