/-
  Part 2.
-/
import Derived.Test.YtfkgkbhbdffckaaGreatDoorVbM1
set_option linter.all false
set_option maxHeartbeats 8000000
set_option maxRecDepth 100000
namespace Go.Proofs.YtfkgkbhbdffckaaGreatDoor
open Go.Fw
theorem cK:bT Tryz.prog 3=some (false,1):=by kernel_rfl
theorem rQ:cH Tryz.prog 3=some (some (.int .i64 0)):=by kernel_rfl
theorem DB:Tryz.prog.underlying 3=some (.int .i64):=by kernel_rfl
theorem I9:bT Tryz.prog 4=some (false,1):=by kernel_rfl
theorem La:cH Tryz.prog 4=some (some (.bool false)):=by kernel_rfl
theorem VM:Tryz.prog.underlying 4=some (.bool):=by kernel_rfl
theorem kp:bT Tryz.prog 9=some (false,1):=by kernel_rfl
theorem agX:cH Tryz.prog 9=some (some (.string ⟨#[]⟩)):=by kernel_rfl
theorem rR:Tryz.prog.underlying 9=some (.string):=by kernel_rfl
theorem m9:bT Tryz.prog 22=some (false,1):=by kernel_rfl
theorem kq:cT Tryz.prog 22=some (26,4,40,some 4):=by kernel_rfl
theorem mq:bT Tryz.prog 24=some (true,9):=by kernel_rfl
theorem gI:aQ Tryz.prog 24 0=some (0,some true):=by kernel_rfl
theorem nc:aQ Tryz.prog 24 1=some (1,some true):=by kernel_rfl
theorem ng:aQ Tryz.prog 24 2=some (2,some true):=by kernel_rfl
theorem nh:aQ Tryz.prog 24 3=some (3,some true):=by kernel_rfl
theorem oy:aQ Tryz.prog 24 4=some (4,some true):=by kernel_rfl
theorem ql:aQ Tryz.prog 24 5=some (5,some true):=by kernel_rfl
theorem ni:aQ Tryz.prog 24 6=some (6,some true):=by kernel_rfl
theorem qn:aQ Tryz.prog 24 7=some (7,some true):=by kernel_rfl
theorem sV:aQ Tryz.prog 24 8=some (8,some true):=by kernel_rfl
theorem nK:cH Tryz.prog 24=some (some (.agg [.int .i64 0,.string ⟨#[]⟩,.string ⟨#[]⟩,.slice none 0 0,.slice none 0 0,.int .i64 0,.int .i64 0,.int .i64 0,.int .i64 0].toArray)):=by kernel_rfl
theorem zQ:bT Tryz.prog 26=some (true,4):=by kernel_rfl
theorem me:aQ Tryz.prog 26 0=some (0,some true):=by kernel_rfl
theorem vD:aQ Tryz.prog 26 1=some (1,some true):=by kernel_rfl
theorem kW:aQ Tryz.prog 26 2=some (2,some true):=by kernel_rfl
theorem vE:aQ Tryz.prog 26 3=some (3,some true):=by kernel_rfl
theorem DC:cH Tryz.prog 26=some (some (.agg [.int .i64 0,.int .i64 0,.string ⟨#[]⟩,.int .i64 0].toArray)):=by kernel_rfl
theorem zR:bT Tryz.prog 27=some (false,1):=by kernel_rfl
theorem iV:cT Tryz.prog 27=some (24,9,120,some 9):=by kernel_rfl
theorem Ce:Tryz.prog.underlying 28=some (.pointer 81):=by kernel_rfl
theorem tO:bT Tryz.prog 29=some (false,1):=by kernel_rfl
theorem abV:cH Tryz.prog 29=some (some (.int .i64 0)):=by kernel_rfl
theorem lL:bT Tryz.prog 32=some (false,1):=by kernel_rfl
theorem nj:cT Tryz.prog 32=some (9,1,16,some 1):=by kernel_rfl
theorem abW:cH Tryz.prog 32=some (some (.slice none 0 0)):=by kernel_rfl
theorem py:bT Tryz.prog 34=some (true,4):=by kernel_rfl
theorem sW:aQ Tryz.prog 34 0=some (0,some true):=by kernel_rfl
theorem kX:aQ Tryz.prog 34 1=some (1,some true):=by kernel_rfl
theorem sX:aQ Tryz.prog 34 2=some (2,some true):=by kernel_rfl
theorem y9:aQ Tryz.prog 34 3=some (3,some true):=by kernel_rfl
theorem rS:cH Tryz.prog 34=some (some (.agg [.string ⟨#[]⟩,.slice none 0 0,.slice none 0 0,.int .i64 0].toArray)):=by kernel_rfl
theorem fg:bT Tryz.prog 35=some (false,1):=by kernel_rfl
theorem iO:cT Tryz.prog 35=some (34,4,72,some 4):=by kernel_rfl
theorem rB:bT Tryz.prog 36=some (false,1):=by kernel_rfl
theorem rT:cT Tryz.prog 36=some (37,1,24,some 1):=by kernel_rfl
theorem iP:bT Tryz.prog 37=some (false,1):=by kernel_rfl
theorem nk:cT Tryz.prog 37=some (142,3,32,some 3):=by kernel_rfl
theorem tP:bT Tryz.prog 38=some (false,1):=by kernel_rfl
theorem vF:cT Tryz.prog 38=some (112,2,32,some 2):=by kernel_rfl
theorem gR:bT Tryz.prog 40=some (true,6):=by kernel_rfl
theorem jk:aQ Tryz.prog 40 0=some (0,some true):=by kernel_rfl
theorem vG:aQ Tryz.prog 40 1=some (1,some true):=by kernel_rfl
theorem sY:aQ Tryz.prog 40 2=some (2,some true):=by kernel_rfl
theorem qo:aQ Tryz.prog 40 3=some (3,some true):=by kernel_rfl
theorem sZ:aQ Tryz.prog 40 4=some (4,some true):=by kernel_rfl
theorem kY:aQ Tryz.prog 40 5=some (5,some true):=by kernel_rfl
theorem mN:cH Tryz.prog 40=some (some (.agg [.slice none 0 0,.slice none 0 0,.slice none 0 0,.slice none 0 0,.slice none 0 0,.slice none 0 0].toArray)):=by kernel_rfl
theorem iz:bT Tryz.prog 42=some (true,5):=by kernel_rfl
theorem VN:aQ Tryz.prog 42 1=some (1,some true):=by kernel_rfl
theorem qp:cH Tryz.prog 42=some (some (.agg [.int .i64 0,.int .i64 0,.int .i64 0,.int .i64 0,.int .i64 0].toArray)):=by kernel_rfl
theorem fT:bT Tryz.prog 45=some (false,1):=by kernel_rfl
theorem ei:cT Tryz.prog 45=some (3,1,8,some 1):=by kernel_rfl
theorem abX:cH Tryz.prog 45=some (some (.slice none 0 0)):=by kernel_rfl
theorem qt:bT Tryz.prog 47=some (true,4):=by kernel_rfl
theorem td:aQ Tryz.prog 47 0=some (0,some true):=by kernel_rfl
theorem mf:aQ Tryz.prog 47 1=some (1,some true):=by kernel_rfl
theorem te:aQ Tryz.prog 47 2=some (2,some true):=by kernel_rfl
theorem oz:aQ Tryz.prog 47 3=some (3,some true):=by kernel_rfl
theorem DD:cH Tryz.prog 47=some (some (.agg [.int .i64 0,.int .i64 0,.int .i64 0,.slice none 0 0].toArray)):=by kernel_rfl
theorem Ja:bT Tryz.prog 49=some (true,5):=by kernel_rfl
theorem Lb:aQ Tryz.prog 49 0=some (0,some true):=by kernel_rfl
theorem DE:aQ Tryz.prog 49 3=some (3,some true):=by kernel_rfl
theorem DF:aQ Tryz.prog 49 4=some (4,some true):=by kernel_rfl
theorem Jb:cH Tryz.prog 49=some (some (.agg [.int .i64 0,.int .i64 0,.int .i64 0,.bool false,.bool false].toArray)):=by kernel_rfl
theorem anu:bT Tryz.prog 52=some (false,1):=by kernel_rfl
theorem abY:cT Tryz.prog 53=some (57,6,64,some 6):=by kernel_rfl
theorem lV:cT Tryz.prog 55=some (47,4,48,some 4):=by kernel_rfl
theorem abZ:bT Tryz.prog 57=some (true,6):=by kernel_rfl
theorem DG:aQ Tryz.prog 57 0=some (0,some true):=by kernel_rfl
theorem VO:aQ Tryz.prog 57 1=some (1,some true):=by kernel_rfl
theorem DH:aQ Tryz.prog 57 2=some (2,some true):=by kernel_rfl
theorem vH:bT Tryz.prog 74=some (false,1):=by kernel_rfl
theorem DI:bT Tryz.prog 78=some (false,1):=by kernel_rfl
theorem DJ:bT Tryz.prog 79=some (false,1):=by kernel_rfl
theorem FH:cT Tryz.prog 79=some (94,1,8,some 1):=by kernel_rfl
theorem Lc:aQ Tryz.prog 81 0=some (0,some true):=by kernel_rfl
theorem Ld:aQ Tryz.prog 81 1=some (6,some true):=by kernel_rfl
theorem DK:aQ Tryz.prog 81 2=some (7,some true):=by kernel_rfl
theorem VP:aQ Tryz.prog 81 3=some (8,some true):=by kernel_rfl
theorem nn:aQ Tryz.prog 81 4=some (9,some true):=by kernel_rfl
theorem qu:aQ Tryz.prog 81 5=some (10,some true):=by kernel_rfl
theorem qw:aQ Tryz.prog 81 6=some (11,some true):=by kernel_rfl
theorem DN:aQ Tryz.prog 81 7=some (12,some true):=by kernel_rfl
theorem qx:aQ Tryz.prog 81 8=some (13,some true):=by kernel_rfl
theorem Lf:aQ Tryz.prog 81 9=some (14,some true):=by kernel_rfl
theorem Ny:bT Tryz.prog 94=some (false,1):=by kernel_rfl
theorem uN:bT Tryz.prog 95=some (false,1):=by kernel_rfl
theorem xe:cT Tryz.prog 95=some (183,2,32,some 2):=by kernel_rfl
theorem nq:aQ Tryz.prog 97 0=some (0,some true):=by kernel_rfl
theorem za:aQ Tryz.prog 97 1=some (1,some true):=by kernel_rfl
theorem zb:aQ Tryz.prog 97 2=some (2,some true):=by kernel_rfl
theorem iW:aQ Tryz.prog 97 3=some (3,some true):=by kernel_rfl
theorem vI:aQ Tryz.prog 97 4=some (4,some true):=by kernel_rfl
theorem FI:bT Tryz.prog 112=some (true,2):=by kernel_rfl
theorem vJ:aQ Tryz.prog 112 0=some (0,some true):=by kernel_rfl
theorem FJ:aQ Tryz.prog 112 1=some (1,some true):=by kernel_rfl
theorem Lg:cH Tryz.prog 112=some (some (.agg [.slice none 0 0,.int .i64 0].toArray)):=by kernel_rfl
theorem Lh:cT Tryz.prog 113=some (45,1,24,some 1):=by kernel_rfl
theorem Cf:bT Tryz.prog 121=some (false,1):=by kernel_rfl
theorem Li:cH Tryz.prog 121=some (some (.map none)):=by kernel_rfl
theorem agY:bT Tryz.prog 133=some (true,3):=by kernel_rfl
theorem Qp:aQ Tryz.prog 133 0=some (0,some true):=by kernel_rfl
theorem Qq:aQ Tryz.prog 133 1=some (1,some true):=by kernel_rfl
theorem Qr:aQ Tryz.prog 133 2=some (2,some true):=by kernel_rfl
theorem VQ:cH Tryz.prog 133=some (some (.agg [.string ⟨#[]⟩,.int .i64 0,.slice none 0 0].toArray)):=by kernel_rfl
theorem mY:bT Tryz.prog 135=some (false,1):=by kernel_rfl
theorem iQ:cT Tryz.prog 135=some (152,4,32,some 4):=by kernel_rfl
theorem Qs:aQ Tryz.prog 137 0=some (0,some true):=by kernel_rfl
theorem iJ:aQ Tryz.prog 137 1=some (1,some true):=by kernel_rfl
theorem mr:bT Tryz.prog 142=some (true,3):=by kernel_rfl
theorem mu:aQ Tryz.prog 142 0=some (0,some true):=by kernel_rfl
theorem zS:aQ Tryz.prog 142 1=some (1,some true):=by kernel_rfl
theorem vK:aQ Tryz.prog 142 2=some (2,some true):=by kernel_rfl
theorem oA:cH Tryz.prog 142=some (some (.agg [.string ⟨#[]⟩,.int .i64 0,.int .i64 0].toArray)):=by kernel_rfl
theorem rU:bT Tryz.prog 144=some (false,1):=by kernel_rfl
theorem rV:aQ Tryz.prog 146 0=some (0,some true):=by kernel_rfl
theorem Qt:aQ Tryz.prog 146 1=some (1,some true):=by kernel_rfl
theorem nL:aQ Tryz.prog 146 2=some (2,some true):=by kernel_rfl
theorem vL:aQ Tryz.prog 146 3=some (3,some true):=by kernel_rfl
theorem mw:aQ Tryz.prog 146 4=some (4,some true):=by kernel_rfl
theorem jK:bT Tryz.prog 152=some (true,4):=by kernel_rfl
theorem nM:aQ Tryz.prog 152 0=some (0,some true):=by kernel_rfl
theorem kZ:aQ Tryz.prog 152 1=some (1,some true):=by kernel_rfl
theorem pA:aQ Tryz.prog 152 2=some (2,some true):=by kernel_rfl
theorem rW:aQ Tryz.prog 152 3=some (3,some true):=by kernel_rfl
theorem tf:cH Tryz.prog 152=some (some (.agg [.int .i64 0,.int .i64 0,.int .i64 0,.int .i64 0].toArray)):=by kernel_rfl
theorem FK:aQ Tryz.prog 183 0=some (0,some true):=by kernel_rfl
theorem Qu:aQ Tryz.prog 183 1=some (1,some true):=by kernel_rfl
theorem ZS:bT Tryz.prog 192=some (true,20):=by kernel_rfl
theorem VR:cH Tryz.prog 192=some (some (.agg [.int .i64 0,.int .i64 0,.int .i64 0,.int .i64 0,.int .i64 0,.int .i64 0,.int .i64 0,.int .i64 0,.int .i64 0,.int .i64 0,.int .i64 0,.int .i64 0,.int .i64 0,.int .i64 0,.int .i64 0,.int .i64 0,.int .i64 0,.int .i64 0,.int .i64 0,.int .i64 0].toArray)):=by kernel_rfl
theorem Lj:bT Tryz.prog 201=some (false,1):=by kernel_rfl
theorem VS:cH Tryz.prog 201=some (some (.nilFunc)):=by kernel_rfl
theorem vM:cT Tryz.prog 216=some (218,2,16,some 2):=by kernel_rfl
theorem tg:cH Tryz.prog 216=some (some (.slice none 0 0)):=by kernel_rfl
theorem Lk:bT Tryz.prog 218=some (true,2):=by kernel_rfl
theorem FL:aQ Tryz.prog 218 0=some (0,some true):=by kernel_rfl
theorem FM:aQ Tryz.prog 218 1=some (1,some true):=by kernel_rfl
theorem Ll:cH Tryz.prog 218=some (some (.agg [.int .i64 0,.int .i64 0].toArray)):=by kernel_rfl
theorem ui:cT Tryz.prog 233=some (274,2,16,some 2):=by kernel_rfl
theorem rX:bT Tryz.prog 240=some (false,1):=by kernel_rfl
theorem FN:cT Tryz.prog 252=some (35,1,24,some 1):=by kernel_rfl
theorem my:aQ Tryz.prog 270 0=some (0,some true):=by kernel_rfl
theorem pB:aQ Tryz.prog 272 0=some (0,some true):=by kernel_rfl
theorem FP:aQ Tryz.prog 272 1=some (1,some true):=by kernel_rfl
theorem VT:cH Tryz.prog 272=some (some (.agg [.slice none 0 0,.int .i64 0].toArray)):=by kernel_rfl
theorem zT:bT Tryz.prog 274=some (true,2):=by kernel_rfl
theorem jZ:aQ Tryz.prog 274 0=some (0,some true):=by kernel_rfl
theorem mz:aQ Tryz.prog 274 1=some (1,some true):=by kernel_rfl
theorem DO:cH Tryz.prog 274=some (some (.agg [.int .i64 0,.int .i64 0].toArray)):=by kernel_rfl
theorem Qv:bT Tryz.prog 301=some (true,16):=by kernel_rfl
theorem Lm:cH Tryz.prog 301=some (some (.agg [.nilFunc,.nilFunc,.nilFunc,.nilFunc,.nilFunc,.nilFunc,.nilFunc,.nilFunc,.nilFunc,.nilFunc,.nilFunc,.nilFunc,.nilFunc,.nilFunc,.nilFunc,.nilFunc].toArray)):=by kernel_rfl
theorem yf (a0:ByteArray) (a3:Int) (a2:Option Addr) (n2 c2:Nat):pr Tryz.prog (Instr.build 34 [(0,.string a0),(3,.int .i64 a3),(2,.slice a2 n2 c2)].toArray)=some (.agg [.string a0,.slice none 0 0,.slice a2 n2 c2,.int .i64 a3].toArray):=by kernel_rfl
theorem fu (a1:Option Addr) (n1 c1:Nat) (a2:Option Addr) (n2 c2:Nat) (a3:Option Addr) (n3 c3:Nat) (a4:Option Addr) (n4 c4:Nat):pr Tryz.prog (Instr.build 40 [(1,.slice a1 n1 c1),(2,.slice a2 n2 c2),(3,.slice a3 n3 c3),(4,.slice a4 n4 c4)].toArray)=some (.agg [.slice none 0 0,.slice a1 n1 c1,.slice a2 n2 c2,.slice a3 n3 c3,.slice a4 n4 c4,.slice none 0 0].toArray):=by kernel_rfl
theorem Jc (a0:Option Addr) (n0 c0:Nat) (a1:Int):pr Tryz.prog (Instr.build 112 [(0,.slice a0 n0 c0),(1,.int .i64 a1)].toArray)=some (.agg [.slice a0 n0 c0,.int .i64 a1].toArray):=by kernel_rfl
theorem Qw (a0:Int):pr Tryz.prog (Instr.build 137 [(0,.int .i64 a0)].toArray)=some (.agg [.int .i64 a0,.slice none 0 0].toArray):=by kernel_rfl
theorem zU (a0:Option Addr) (n0 c0:Nat) (a1:Option Addr) (n1 c1:Nat) (a2:Option Addr) (n2 c2:Nat) (a4:Option Nat):pr Tryz.prog (Instr.build 146 [(0,.slice a0 n0 c0),(1,.slice a1 n1 c1),(2,.slice a2 n2 c2),(4,.map a4)].toArray)=some (.agg [.slice a0 n0 c0,.slice a1 n1 c1,.slice a2 n2 c2,.slice none 0 0,.map a4].toArray):=by kernel_rfl
theorem DP:pr Tryz.prog (Instr.build 152 [].toArray)=some (.agg [.int .i64 0,.int .i64 0,.int .i64 0,.int .i64 0].toArray):=by kernel_rfl
theorem zV (a0:Int):pr Tryz.prog (Instr.build 152 [(0,.int .i64 a0)].toArray)=some (.agg [.int .i64 a0,.int .i64 0,.int .i64 0,.int .i64 0].toArray):=by kernel_rfl
theorem Jd (a0:Int) (a1:Int):pr Tryz.prog (Instr.build 218 [(0,.int .i64 a0),(1,.int .i64 a1)].toArray)=some (.agg [.int .i64 a0,.int .i64 a1].toArray):=by kernel_rfl
theorem Qx:oQ Tryz.prog 152=some [0,0,0,0]:=by kernel_rfl
end Go.Proofs.YtfkgkbhbdffckaaGreatDoor
namespace Go.Fw
def sep (H1 H2:HP):HP where
 p w F:=∃ F1 F2,H1.p w F1/\H2.p w F2/\(∀ b,F1 b->¬ F2 b)/\∀ b,F b↔F1 b\/F2 b
 loc w w' F h hh:=by
  obtain ⟨F1,F2,h1,h2,h3,h4⟩:=h
  exact ⟨F1,F2,H1.loc _ _ _ h1 λ b hb=>hh b ((h4 b).2 (.inl hb)),H2.loc _ _ _ h2 λ b hb=>hh b ((h4 b).2 (.inr hb)),h3,h4⟩
 lt w F b h hb:=by
  obtain ⟨F1,F2,h1,h2,h3,h4⟩:=h
  rcases (h4 b).1 hb with hf | hf
  ·exact H1.lt _ _ _ h1 hf
  ·exact H2.lt _ _ _ h2 hf
def yJ {α:Type} (H:α->HP):HP where
 p w F:=∃ x,(H x).p w F
 loc w w' F h hh:=by obtain ⟨x,h⟩:=h; exact ⟨x,(H x).loc _ _ _ h hh⟩
 lt w F b h hb:=by obtain ⟨x,h⟩:=h; exact (H x).lt _ _ _ h hb
def fact (φ:Prop) (H:HP):HP where
 p w F:=φ/\H.p w F
 loc w w' F h hh:=⟨h.1,H.loc _ _ _ h.2 hh⟩
 lt w F b h hb:=H.lt _ _ _ h.2 hb
def emp:HP where
 p _ F:=∀ b,¬ F b
 loc _ _ _ h _:=h
 lt _ _ b h hb:=(h b hb).elim
section
variable {P:Program} {w w0 w':World} {A:Nat->Prop} {L:List HP} {H H1 H2:HP}
theorem St.split (h:St w0 A (sep H1 H2::L) w):St w0 A (H1::H2::L) w:=by
 obtain ⟨U,F,U',⟨F1,F2,g1,g2,g3,g4⟩,h2,h3,h4,h5⟩:=h.oO
 refine ⟨h.aE,U,F1,λ b=>F2 b\/U' b,g1,λ b hb=>h2 b ((g4 b).2 (.inl hb)),λ b hb hu=>?_,λ b=>?_,F2,U',g2,λ b hb=>h2 b ((g4 b).2 (.inr hb)),λ b hb hu=>h3 b ((g4 b).2 (.inr hb)) hu,λ b=>Iff.rfl,h5⟩
 ·rcases hu with hu | hu
  ·exact g3 b hb hu
  exact h3 b ((g4 b).2 (.inl hb)) hu
 rw [h4 b,g4 b,or_assoc]
theorem St.join (h:St w0 A (H1::H2::L) w):St w0 A (sep H1 H2::L) w:=by
 obtain ⟨U,F,U',h1,h2,h3,h4,F2,U2,g1,g2,g3,g4,g5⟩:=h.oO
 refine ⟨h.aE,U,λ b=>F b\/F2 b,U2,⟨F,F2,h1,g1,λ b hb hf=>h3 b hb ((g4 b).2 (.inl hf)),λ b=>Iff.rfl⟩,λ b hb=>hb.elim (h2 b) (g2 b),λ b hb hu=>?_,λ b=>?_,g5⟩
 ·rcases hb with hb | hb
  ·exact h3 b hb ((g4 b).2 (.inr hu))
  exact g3 b hb hu
 rw [h4 b,g4 b,or_assoc]
theorem St.eH {α:Type} {H:α->HP} (h:St w0 A (yJ H::L) w):∃ x,St w0 A (H x::L) w:=by
 obtain ⟨U,F,U',⟨x,h1⟩,h2⟩:=h.oO; exact ⟨x,h.aE,U,F,U',h1,h2⟩
theorem St.eb {α:Type} {H:α->HP} (x:α) (h:St w0 A (H x::L) w):St w0 A (yJ H::L) w:=by
 obtain ⟨U,F,U',h1,h2⟩:=h.oO; exact ⟨h.aE,U,F,U',⟨x,h1⟩,h2⟩
theorem St.vN {φ:Prop} (h:St w0 A (fact φ H::L) w):φ/\St w0 A (H::L) w:=by
 obtain ⟨U,F,U',⟨x,h1⟩,h2⟩:=h.oO; exact ⟨x,h.aE,U,F,U',h1,h2⟩
theorem St.re {φ:Prop} (x:φ) (h:St w0 A (H::L) w):St w0 A (fact φ H::L) w:=by
 obtain ⟨U,F,U',h1,h2⟩:=h.oO; exact ⟨h.aE,U,F,U',⟨x,h1⟩,h2⟩
def ti (F:Nat->Prop) (H':HP) (w w':World):Prop:=∃ F',H'.p w' F'/\(∀ b,F' b->F b\/w.heap.size<=b)/\gM F w w'
def mZ (H:HP) (w w':World):Prop:=∃ F,H.p w' F/\(∀ b,F b->w.heap.size<=b)/\Ext w w'
theorem St.mut {F:Nat->Prop} (hs:St w F (H::L) w'):ti F H w w':=by
 obtain ⟨F',h1,h2⟩:=hs.head; exact ⟨F',h1,h2,hs.aE⟩
theorem St.fresh (hs:St w bD (H::L) w'):mZ H w w':=by
 obtain ⟨F',h1,h2⟩:=hs.head; exact ⟨F',h1,λ b hb=>(h2 b hb).elim (λ h=>h.elim) id,hs.aE⟩
theorem St.made (hs:St w0 A L w) (h:mZ H w w'):St w0 A (H::L) w':=by
 obtain ⟨F,h1,h2,h3⟩:=h; exact hs.new h3 h1 h2
theorem bO {f:FuncId} {args:List Value} {X:Value} {K:Value->World->Prop} (pl:Plain P f) (hs:St w0 A L w) (hc:Calls P f args.toArray w (mW λ v w'=>v=X/\Ext w w')) (k:∀ w',Ext w w'->St w0 A L w'->K X w'):xX P f args w K:=
 eW pl hc λ v w' h=>by obtain ⟨rfl,h2⟩:=h; exact k w' h2 (hs.ext h2)
theorem dA {f:FuncId} {args:List Value} {H:Value->HP} {K:Value->World->Prop} (pl:Plain P f) (hs:St w0 A L w) (hc:Calls P f args.toArray w (mW λ v w'=>mZ (H v) w w')) (k:∀ v w',mZ (H v) w w'->St w0 A (H v::L) w'->K v w'):xX P f args w K:=
 eW pl hc λ v w' h=>k v w' h (hs.made h)
theorem St.Qy {F:Nat->Prop} {U':Nat->Prop} {H':HP} (hs:St w0 A (H::L) w) (h2:∀ b,F b->A b\/w0.heap.size<=b) (h3:∀ b,F b->¬ U' b) (h5:ot w0 A L w U') (h:ti F H' w w'):St w0 A (H'::L) w':=by
 obtain ⟨F',g1,g2,g3⟩:=h
 refine ⟨hs.aE.trans g3 (λ _ h=>h) λ b hb hf=>(h2 b hf).elim id λ hh=>by omega,λ b=>F' b\/U' b,F',U',g1,λ b hb=>?_,λ b hb hu=>?_,λ b=>Iff.rfl,?_⟩
 ·rcases g2 b hb with hf | hf
  ·exact h2 b hf
  exact .inr (Nat.le_trans hs.aE.size hf)
 ·rcases g2 b hb with hf | hf
  ·exact h3 b hf hu
  have:=h5.lt b hu; omega
 exact h5.loc λ b hb=>g3.cP b (h5.lt b hb) λ hf=>h3 b hf hb
theorem mg {f:FuncId} {args:List Value} {H':Value->HP} {Φ:Value->World->Prop} {K:Value->World->Prop} (pl:Plain P f) (hs:St w0 A (H::L) w)
  (hc:∀ F,H.p w F->Calls P f args.toArray w (mW λ v w'=>Φ v w'/\ti F (H' v) w w')) (k:∀ v w',Φ v w'->St w0 A (H' v::L) w'->K v w'):xX P f args w K:=by
 obtain ⟨U,F,U',h1,h2,h3,h4,h5⟩:=hs.oO
 exact eW pl (hc F h1) λ v w' ⟨hΦ,hM⟩=>k v w' hΦ (hs.Qy h2 h3 h5 hM)
end
section
variable {α:Type} [Flat α] {P:Program} {w w0:World} {A S:Nat->Prop} {L:List HP} {xs ys:List α}
theorem dx.one {v:Value} (h:dx S w v xs):fe v=true:=by obtain ⟨a,c,rfl,_⟩:=h; rfl
theorem BE {T E by' R b n cap:Nat} {z:Option Nat} {src:Value} {cs:List Value} (ht:cT P T=some (E,Flat.sz α,by',z)) (hb:q9 w b cs) (pw:dx S w src ys)
  (jJ:n+ys.length<=cap) (uK:n * Flat.sz α+ys.length * Flat.sz α<=cs.length) :
  ∃ w',(Builtin.append_ #[T,T] R [.slice (some ⟨b,0,none⟩) n cap,src].toArray).run P w = .ok (.slice (some ⟨b,0,none⟩) (n+ys.length) cap) w'/\q9 w' b (eC cs (n * Flat.sz α) (flat ys))/\gM (· = b) w w':=by
 obtain ⟨hu,inf,hi,iN,nJ,_⟩:=dz ht
 have rd:=pw
 obtain ⟨sa,Qm,rfl,hsc,hs3⟩:=rd
 obtain ⟨w',h1,h2,h3⟩:=jC (P:=P) (o:=n * Flat.sz α) (flat ys) 0 cs w hb (by rw [bZ]; omega) vz
 refine ⟨w',?_,by simpa using h2,h3⟩
 have hf:=sU (α:=α) (P:=P) (sz:=Flat.sz α) rfl pw
 have abT:(⟨b,0,none⟩:Addr).add (n * Flat.sz α)=⟨b,n * Flat.sz α,none⟩:=by rw [dK,Nat.zero_add]
 simp [Builtin.append_,run_underlying hu,sizeOf,typeInfo,hi,Builtin.lenOf,jJ,hf,iN,abT,h1]
theorem Nz {T E by' R b o n c:Nat} {z:α} {cs:List Value} (ht:Qk P T E (Flat.sz α) by') (hz:jI P E (Flat.val z)) (hb:q9 w b cs) (uK:o+n * Flat.sz α<=cs.length) :
  ∃ w',(Builtin.clear_ #[T] R [.slice (some ⟨b,o,none⟩) n c].toArray).run P w = .ok (.tuple #[]) w'/\q9 w' b (eC cs o (flat (List.replicate n z)))/\gM (· = b) w w':=by
 obtain ⟨hu,inf,hi,iN,nJ,_⟩:=dz ht
 unfold jI cH at hz
 rw [hi] at hz
 simp only [Option.map_some,Option.some.injEq] at hz
 by_cases h0:n=0
 ·subst h0
  refine ⟨w,?_,by simpa [gQ,eC] using hb,gM.refl _ _⟩
  simp [Builtin.clear_,run_underlying hu]
 have hzc:(Builtin.zeroCells (Flat.val z).cells n).toList=flat (List.replicate n z):=by
  rw [lU,<- rP]
  unfold Builtin.zeroCells madeCells
  simp [Flat.len]
 obtain ⟨w',h1,h2,h3⟩:=jC (P:=P) (o:=o) (flat (List.replicate n z)) 0 cs w hb (by rw [bZ,List.length_replicate]; omega) vz
 refine ⟨w',?_,by simpa using h2,h3⟩
 simp [Builtin.clear_,run_underlying hu,zeroValue,typeInfo,hi,hz,h0,hzc,h1]
theorem Qz {T E sz by' n cap:Nat} {z:Option Nat} {a:Option Addr} {i j k:Int} {K:Value->Prop} (ht:cT P T=some (E,sz,by',z)) (h0:0<=i) (h1:i<=j) (h2:j<=k) (h3:k<=cap)
  (kk:∀ v,K v):cU P (Instr.sliceAt T (.slice a n cap) (some (.int .i64 i)) (some (.int .i64 j)) (some (.int .i64 k))) K:=by
 obtain ⟨hu,inf,yW,iN,_⟩:=dz ht
 have hb:pr P (Instr.sliceBounds true n cap (some (.int .i64 i)) (some (.int .i64 j)) (some (.int .i64 k)))=some (i.toNat,j.toNat,k.toNat):=by
  simp only [Instr.sliceBounds,aK,cR,Option.bind_some]
  rw [iI (by omega) (by omega)]
  simp only [Option.bind_some]
  rw [iI (by omega) (by omega)]
  simp only [Option.bind_some]
  rw [iI (by omega) (by omega)]
  rfl
 refine ⟨.slice (if k.toNat=i.toNat then a else a.map (·.add (i.toNat * sz))) (j.toNat - i.toNat) (k.toNat - i.toNat),?_,kk _⟩
 unfold Instr.sliceAt
 rw [aK,aM hu]
 simp only [Option.bind_some]
 unfold Instr.slice
 rw [aK,aM hu]
 simp only [Option.bind_some]
 rw [aK,hb]
 simp only [Option.bind_some]
 rw [aK,fX yW,iN]
 rfl
end
def j6 (b:Nat) (o:Obj):HP where
 p w F:=w.heap[b]? = some o/\∀ k,F k↔k=b
 loc w w' F h hh:=⟨(hh b ((h.2 b).2 rfl)).trans h.1,h.2⟩
 lt w F b' h hb:=by rw [(h.2 b').1 hb]; exact gF h.1
section
variable {P:Program} {w w0 w':World} {A:Nat->Prop} {L:List HP}
theorem St.obj {b:Nat} {o:Obj} (hs:St w0 A (j6 b o::L) w):w.heap[b]? = some o:=by
 obtain ⟨F,h,_⟩:=hs.head; exact h.1
theorem Ext.alloc (w:World) (o:Obj):Ext w (w.alloc o):=Ext.push w o
theorem St.alloc {o:Obj} (hs:St w0 A L w):St w0 A (j6 w.heap.size o::L) (w.alloc o):=
 hs.new (F:=(· = w.heap.size)) (Ext.alloc w o) ⟨jX w o,λ _=>Iff.rfl⟩ λ b hb=>Nat.le_of_eq hb.symm
theorem gM.putObj (w:World) (b:Nat) (o:Obj):gM (· = b) w (w.putObj b o):=
 ⟨rfl,rfl,rfl,by simp,λ k _ hn=>World.putObj_heap_other hn⟩
theorem St.putObj {b:Nat} {o:Obj} (o':Obj) (hs:St w0 A (j6 b o::L) w):St w0 A (j6 b o'::L) (w.putObj b o'):=
 hs.kV λ F hF=>⟨F,⟨World.putObj_heap_same (gF hF.1),hF.2⟩,λ _ h=>.inl h,(gM.putObj w b o').mono λ k hk=>(hF.2 k).2 hk⟩
theorem eg.mono {fv:Value} {args:List Value} {K K':Value->World->Prop} (h:eg P fv args w K) (hk:∀ v w,K v w->K' v w):eg P fv args w K':=
 zE.mono (P:=P) (k:=.BU fv args) h hk
theorem aO {α:Type} [Flat α] {T:TypeId} {b:Nat} {cs:List Value} {x:α} {K:World->Prop} (hs:St w0 A (cP b cs::L) w) (ht:Qj P T (Flat.sz α)) (ha:Flat.agg α=true) (hl:cs.length=Flat.sz α)
  (k:∀ w',St w0 A (cP b (Flat.enc x)::L) w'->K w'):BT P (Instr.storeAt T (.pointer (some ⟨b,0,none⟩)) (Flat.val x)) w K:=by
 rw [Flat.mo ha]
 refine zO hs ht (Flat.len x) (by rw [Nat.zero_add,hl]; exact Nat.le_refl _) (Flat.one x) λ w' h=>k w' ?_
 have:=iU [] cs [] (Flat.enc x) (by rw [Flat.len,hl])
 simp only [List.length_nil,List.nil_append,List.append_nil] at this
 rwa [this] at h
theorem fZ {α:Type} [Flat α] {S:Nat->Prop} {T:TypeId} {p:Value} {x:α} (ht:bT P T=some (Flat.agg α,Flat.sz α)) (h:At S w p x):(Instr.loadAt T p).run P w = .ok (Flat.val x) w:=by
 obtain ⟨v,h1,h2⟩:=(aF (K:=λ v=>v=Flat.val x) ht h rfl).ex
 rw [<- h2]; exact h1
theorem oB {b:Bool} {A B:Prop} (h:b=true) (a:A):uc (.bool b) A B:=⟨⟨_,rfl,λ _=>a,λ hh=>by rw [h] at hh; cases hh⟩⟩
theorem fB {b:Bool} {A B:Prop} (h:b=false) (a:B):uc (.bool b) A B:=⟨⟨_,rfl,λ hh=>(by rw [h] at hh; cases hh),λ _=>a⟩⟩
theorem zW {D:Nat} {K:World->Prop} (hs:St w0 A (j6 D (.deferred (some []))::L) w) (k:∀ w',St w0 A L w'->K w'):fo [D] w K:=
 ⟨hs.obj,k _ (hs.putObj (.deferred none)).drop⟩
theorem zX (L0:Loop) (h1:L0.state = .ready) (h2:L0.pending=none):({L0 with state:=if (none:Option Code).isNone=true then LoopState.ready else LoopState.done,pending:=none}:Loop)=L0:=by
 cases L0; simp only at h1 h2; subst h1; subst h2; rfl
theorem rY {gf np:Nat} {cap:List Value} {xs:List (List Value)} {round:List Value->World->(World->(World->Prop)->Prop)->(Option Code->World->Prop)->Prop}
  {N R:Nat->World->Prop} {X:Nat->Nat->World->Prop} (pl:Plain P gf) (hs:St w0 A L w) (I:Nat->List HP->Prop) (Ix:Code->List HP->Prop) (h0:I 0 L) (hnp:∀ x∈xs,x.length=np)
  (hgf:∀ (y:Value) (J:Nat->World->Prop) (Jx:World->Prop) (W:World),(∀ k W,J k W->∃ Y M,I k M/\St w0 A (Y::M) W)->(∀ k W W',J k W->Ext W W'->J k W')->J 0 W->
   (∀ k args W',xs[k]? = some args->J k W'->eg P y args W' (λ v W''=>(v = .bool true/\J (k+1) W'')\/(v = .bool false/\Jx W'')))->
   Calls P gf ([y]++cap).toArray W (mW λ _ W'=>J xs.length W'\/Jx W'))
  (zI:∀ k args (Y1 Y2:HP) (B:World->(World->Prop)->Prop) (Kr:Option Code->World->Prop) M W,xs[k]? = some args->I k M->
   (∀ M w1 (kk:World->Prop),St w0 A (Y1::M) w1->(∀ w2,St w0 A (Y2::M) w2->kk w2)->B w1 kk)->
   (∀ M w1,St w0 A (Y2::M) w1->I (k+1) M->Kr none w1)->(∀ c M w1,St w0 A (Y2::M) w1->Ix c M->Kr (some c) w1)->
   St w0 A (Y1::M) W->round args W B Kr)
  (QA:∀ D M W,I xs.length M->St w0 A (j6 D (.deferred (some []))::M) W->N D W)
  (ab0:∀ D M W,Ix .ret M->St w0 A (j6 D (.deferred (some []))::M) W->R D W)
  (QB:∀ id D M W,Ix (.exit id) M->St w0 A (j6 D (.deferred (some []))::M) W->X id D W)
  (Je:∀ c M,Ix c M->(∃ id,c = .exit id)\/c = .ret) :
  l9 P (.func (.func gf) #[] cap.toArray) np w round (Pm N R X):=by
 refine ⟨gf,cap.toArray,rfl,pl,λ L0 hst yK hy=>?_⟩
 obtain ⟨l,hl⟩:∃ l,l=w.heap.size+1:=⟨_,rfl⟩
 obtain ⟨D,hD⟩:∃ D,D=w.heap.size:=⟨_,rfl⟩
 rw [<- hl] at hy |-
 rw [<- hD]
 let J:Nat->World->Prop:=λ k W=>∃ M,I k M/\St w0 A (j6 l (.loop L0)::j6 D (.deferred (some []))::M) W
 let Jx:World->Prop:=λ W=>∃ c M,Ix c M/\St w0 A (j6 l (.loop {L0 with state:=.done,pending:=some c})::j6 D (.deferred (some []))::M) W
 have NA:J 0 ((w.alloc (.deferred (some []))).alloc (.loop L0)):=by
  refine ⟨L,h0,?_⟩
  have h1:=(hs.alloc (o:=.deferred (some []))).alloc (o:=.loop L0)
  rw [show (w.alloc (.deferred (some []))).heap.size=l from by rw [hl]; exact xc w _,<- hD] at h1
  exact h1
 have:=hgf (.func (.yield l) #[] #[]) J Jx _ (λ k W ⟨M,hI,hS⟩=>⟨_,M,hI,St.join hS⟩) (λ k W W' ⟨M,hI,hS⟩ e=>⟨M,hI,hS.ext e⟩) NA ?_
 ·have e:([Value.func (.yield l) #[] #[]]++cap).toArray = #[.func (.yield l) #[] #[]]++cap.toArray:=by simp
  rw [e] at this
  refine this.mono λ x W' ⟨v,hx,hv⟩=>⟨v,hx,?_⟩
  rcases hv with ⟨M,hI,hS⟩ | ⟨c,M,hI,hS⟩
  ·refine ⟨.ready,none,by simp,?_,?_⟩
   ·rw [<- hst,<- yK]; exact hS.obj
   exact QA D M _ hI (hS.putObj _).drop
  refine ⟨.done,some c,by simp,hS.obj,?_⟩
  rcases Je c M hI with ⟨id,rfl⟩ | rfl
  ·exact QB id D M _ hI (hS.putObj _).drop
  exact ab0 D M _ hI (hS.putObj _).drop
 intro k args W hk ⟨M,hI,hS⟩
 refine ⟨.inr ⟨l,rfl,?_⟩⟩
 refine hy args W _ (hnp args (List.mem_of_getElem? hk)) hS.obj ?_
 refine zI k args (sep (j6 l (.loop L0)) (j6 D (.deferred (some [])))) (sep (j6 l (.loop {L0 with state:=.busy})) (j6 D (.deferred (some [])))) _ _ M W hk hI
  (λ M w1 kk h1 h2=>?_) (λ M w1 h1 h2=>?_) (λ c M w1 h1 h2=>?_) (St.join hS)
 ·have h1:=h1.split
  exact ⟨h1.obj,h2 _ (h1.putObj _).join⟩
 ·have h1:=h1.split
  refine ⟨h1.obj,.inl ⟨rfl,M,h2,?_⟩⟩
  have:=h1.putObj (.loop {L0 with state:=if (none:Option Code).isNone=true then LoopState.ready else LoopState.done,pending:=none})
  rw [zX L0 hst yK] at this |-
  exact this
 have h1:=h1.split
 exact ⟨h1.obj,.inr ⟨rfl,c,M,h2,h1.putObj _⟩⟩
end
section
variable {P:Program} {w w0:World} {A S:Nat->Prop} {L:List HP}
theorem qy {t:Array TypeId} {T:TypeId} {a b:Int} {K:Value->Prop} (k:K (.int .i64 (min a b))):cU P (Builtin.min_ t T [.int .i64 a,.int .i64 b].toArray) K:=by
 refine ⟨_,?_,k⟩
 show pr P (Builtin.min2 (.int .i64 a) (.int .i64 b))=_
 unfold Builtin.min2
 by_cases h:b<a
 ·simp [h,cR]; omega
 simp [h,cR]; omega
theorem DU {t:Array TypeId} {T:TypeId} {a b:Int} {K:Value->Prop} (k:K (.int .i64 (max a b))):cU P (Builtin.max_ t T [.int .i64 a,.int .i64 b].toArray) K:=by
 refine ⟨_,?_,k⟩
 show pr P (Builtin.max2 (.int .i64 a) (.int .i64 b))=_
 unfold Builtin.max2
 by_cases h:a<b
 ·simp [h,cR]; omega
 simp [h,cR]; omega
end
section
variable {P:Program} {α:Type} [Flat α] {A:Nat->Prop} {w0 w:World} {L:List HP} {xs:List α}
def DV (α:Type) [Flat α] (v:Value) (i off:Nat) (p:Value):Prop:=∃ b n c,v = .slice (some ⟨b,0,none⟩) n c/\p = .pointer (some ⟨b,i * Flat.sz α+off,none⟩)
theorem lg {T f off i:Nat} {v p:Value} {K:Value->Prop} (ht:uI P T f off) (h:B9 α v i p) (k:∀ q,DV α v i off q->K q):cU P (Instr.fieldAt T p f) K:=by
 obtain ⟨b,n,c,h1,rfl⟩:=h
 exact aA ht (k _ ⟨b,n,c,h1,rfl⟩)
theorem vO {β:Type} [Flat β] {T:Nat} {v p:Value} {i off:Nat} {x:α} (y:β) {K:Value->Prop} (hs:St w0 A (bJ v xs::L) w) (ht:bT P T=some (Flat.agg β,Flat.sz β)) (hp:DV α v i off p) (hx:xs[i]? = some x)
  (hy:((Flat.enc x).drop off).take (Flat.sz β)=Flat.enc y) (k:K (Flat.val y)):q7 P (Instr.loadAt T p) w K:=by
 obtain ⟨F,h,_⟩:=hs.head
 obtain ⟨b,cap,rest,hv,hb,hl,_⟩:=nB h (List.getElem?_eq_some_iff.1 hx).1
 obtain ⟨b',n,c,oP,rfl⟩:=hp
 rw [hv] at oP
 simp only [Value.slice.injEq,Option.some.injEq,Addr.mk.injEq] at oP
 obtain ⟨⟨rfl,_,_⟩,_,_⟩:=oP
 refine aF (S:=λ _=>True) ht ⟨b,i * Flat.sz α+off,rfl,trivial,λ j c hj=>hb.cell ?_⟩ k
 rw [<- hy,List.getElem?_take] at hj
 split at hj
 ·rw [List.getElem?_drop] at hj
  have:=pq hx hj
  rw [Nat.add_assoc,List.getElem?_append_left (List.getElem?_eq_some_iff.1 this).1]; exact this
 cases hj
theorem pC {β:Type} [Flat β] {T:Nat} {v p:Value} {i off:Nat} {K:World->Prop} {x:α} (y:α) (z:β) (hs:St w0 A (bJ v xs::L) w) (ht:bT P T=some (Flat.agg β,Flat.sz β)) (hp:DV α v i off p) (hx:xs[i]? = some x)
  (hlen:off+Flat.sz β<=Flat.sz α) (hy:(Flat.enc x).take off++Flat.enc z++(Flat.enc x).drop (off+Flat.sz β)=Flat.enc y)
  (k:∀ w',St w0 A (bJ v (xs.set i y)::L) w'->K w'):BT P (Instr.storeAt T p (Flat.val z)) w K:=by
 obtain ⟨U,F,U',g1,g2,g3,g4,g5⟩:=hs.oO
 have hi:=(List.getElem?_eq_some_iff.1 hx).1
 obtain ⟨b,cap,rest,hv,hb,hl,hF⟩:=nB g1 hi
 obtain ⟨b',n,c,oP,rfl⟩:=hp
 rw [hv] at oP
 simp only [Value.slice.injEq,Option.some.injEq,Addr.mk.injEq] at oP
 obtain ⟨⟨rfl,_,_⟩,_,_⟩:=oP
 have Nx:=uL hx
 have Qn:(flat (xs.take i)).length=i * Flat.sz α:=by rw [bZ,List.length_take,Nat.min_eq_left (by omega)]
 have IH:i * Flat.sz α+Flat.sz α<=(flat xs).length:=by
  rw [bZ,<- Nat.succ_mul]; exact Nat.mul_le_mul_right _ hi
 have hxl:(Flat.enc x).length=Flat.sz α:=Flat.len x
 have DW:(Flat.enc z).length=Flat.sz β:=Flat.len z
 obtain ⟨w',h1,h2,h3⟩:=jC (P:=P) (o:=i * Flat.sz α+off) (Flat.enc z) 0 (flat xs++rest) w hb (by rw [DW,List.length_append]; omega) (Flat.one z)
 have ml:eC (flat xs++rest) (i * Flat.sz α+off+0) (Flat.enc z)=flat (xs.set i y)++rest:=by
  have:=iU (flat (xs.take i)++(Flat.enc x).take off) (((Flat.enc x).drop off).take (Flat.sz β)) ((Flat.enc x).drop (off+Flat.sz β)++flat (xs.drop (i+1))++rest) (Flat.enc z)
   (by rw [DW,List.length_take,List.length_drop]; omega)
  rw [List.length_append,Qn,List.length_take,Nat.min_eq_left (by omega)] at this
  rw [Nat.add_zero,FE y hi,Nx,<- hy]
  have e1:Flat.enc x=(Flat.enc x).take off++((Flat.enc x).drop off).take (Flat.sz β)++(Flat.enc x).drop (off+Flat.sz β):=by
   rw [<- List.drop_drop,List.append_assoc,List.take_append_drop,List.take_append_drop]
  have e2:flat (xs.take i)++Flat.enc x++flat (xs.drop (i+1))++rest=flat (xs.take i)++(Flat.enc x).take off++((Flat.enc x).drop off).take (Flat.sz β)++((Flat.enc x).drop (off+Flat.sz β)++flat (xs.drop (i+1))++rest):=by
   conv=>lhs; rw [e1]
   simp only [List.append_assoc]
  rw [e2,this]
  simp only [List.append_assoc]
 rw [ml] at h2
 refine ⟨w',?_,k w' ⟨hs.aE.trans (h3.mono λ k hk=>(hF k).2 hk) (λ _ h=>h) λ b hb hf=>(g2 b hf).elim id λ hh=>by omega,U,F,U',?_,g2,g3,g4,
  g5.loc λ b hb=>(h3.mono λ k hk=>(hF k).2 hk).cP b (g5.lt b hb) λ hf=>g3 b hf hb⟩⟩
 ·show (storeVar T ⟨b,i * Flat.sz α+off,none⟩ (Flat.val z)).run P w=_
  unfold storeVar
  rw [aZ (bM (eD ht).2 w),lU]
  simp only [List.size_toArray,Flat.len,ne_eq,not_true_eq_false,if_false]
  exact h1
 refine .inr ⟨b,cap,rest,by rw [List.length_set]; exact hv,h2,?_,hF⟩
 rw [List.length_append,bZ] at hl |-; rw [List.length_set]; exact hl
theorem Ln {T:Nat} {b o:Nat} {cs:List Value} (x:α) {K:Value->Prop} (ht:bT P T=some (Flat.agg α,Flat.sz α)) (hb:q9 w b cs) (hx:(cs.drop o).take (Flat.sz α)=Flat.enc x) (k:K (Flat.val x)) :
  q7 P (Instr.loadAt T (.pointer (some ⟨b,o,none⟩))) w K:=by
 refine aF (S:=λ _=>True) ht ⟨b,o,rfl,trivial,λ j c hj=>hb.cell ?_⟩ k
 rw [<- hx,List.getElem?_take] at hj
 split at hj
 ·rw [List.getElem?_drop] at hj; exact hj
 cases hj
end
structure SV where
 a:Option Addr
 n:Nat
 cap:Nat
instance:Flat SV where
 agg:=false
 sz:=1
 enc s:=[.slice s.a s.n s.cap]
 val s:=.slice s.a s.n s.cap
 pos:=by decide
 len _:=rfl
 one a v h:=by rw [List.mem_singleton.1 h]; rfl
 mo h:=by cases h
 mM _ _:=rfl
section
variable {P:Program} {α:Type} [Flat α] {A:Nat->Prop} {w0 w:World} {L L':List HP} {v:Value}
def rows:List SV->List (List α)->HP
 | [],[]=>emp
 | s::ss,x::xs=>sep (bJ (Flat.val s) x) (rows ss xs)
 | _,_=>fact False emp
theorem St.eT {xs:List α} (hs:St w0 A (bJ v xs::L) w):∃ s:SV,v=Flat.val s:=by
 obtain ⟨F,h,_⟩:=hs.head
 rcases h with ⟨rfl,_⟩ | ⟨b,cap,_,rfl,_⟩
 ·exact ⟨⟨none,0,0⟩,rfl⟩
 exact ⟨⟨_,_,_⟩,rfl⟩
theorem dx.eT {S:Nat->Prop} {xs:List α} (h:dx S w v xs):∃ s:SV,v=Flat.val s:=by
 obtain ⟨a,cap,rfl,_⟩:=h; exact ⟨⟨_,_,_⟩,rfl⟩
def anw (w:World) (v:Value) (xs:List (List α)):Prop:=
 ∃ ss:List SV,dx (λ _=>True) w v ss/\ss.length=xs.length/\∀ (i:Nat) (s:SV) (x:List α),ss[i]? = some s->xs[i]? = some x->dx (λ _=>True) w (Flat.val s) x
end
section
variable {P:Program}
theorem nN {α:Type} [Flat α] {S:Nat->Prop} {w:World} {xs:List α} {T E by':Nat} {z:Option Nat} {v:Value} {i:Int} {K:Value->Prop} (ht:cT P T=some (E,Flat.sz α,by',z)) (hr:dx S w v xs) (h0:0<=i) (h2:i<=xs.length)
  (k:∀ v',(∀ w',dx S w' v xs->dx S w' v' (xs.take i.toNat))->K v'):cU P (Instr.sliceAt T v none (some (.int .i64 i)) none) K:=by
 obtain ⟨a,cap,rfl,vA,h3⟩:=hr
 refine ⟨_,rO ht (kJ (.inl ⟨rfl,rfl⟩) (.inr ⟨i,rfl,h0,rfl⟩) (Nat.zero_le _) (by omega)),k _ λ w' h=>?_⟩
 have:=h.cut rfl (Nat.zero_le i.toNat) (by omega)
 simpa using this
end
open Go.ChangeShapes Go.WideShapes Go.ChangeAt Go.RowKit
structure RdT (P:Program) (t:TypeId) (α:Type) [Flat α] (φ:α->Prop):Prop where
 cells:P.cellsOf t=Flat.sz α
 rd:∀ {H:Type} (enc:TypeId × Value->H) (w:World) (base:Nat) (sp:Nat->Bool) (held:Bool) (fuel:Nat) (cs:List Value) (x:DataW H × List MemPlace),
  DataW.trod enc P w base sp held fuel t cs=some x->∃ a:α,cs=Flat.enc a/\φ a
def jL (n:Int):Prop:=-9223372036854775808<=n/\n<=9223372036854775807
theorem ab1 {P:Program} {t:TypeId} (ht:P.underlying t=some (.int .i64)) (hc:P.cellsOf t=1):RdT P t Int jL:=
 ⟨hc,λ enc w base sp held fuel cs x h=>by
  obtain ⟨n,h1,_,h3⟩:=DataW.trod_int ht h
  refine ⟨n,h1,?_⟩
  simpa [Lit.wf,IntKind.min,IntKind.max,IntKind.signed,IntKind.bits,jL] using h3⟩
theorem ab2 {P:Program} {t:TypeId} (ht:P.underlying t=some .string) (hc:P.cellsOf t=1):RdT P t ByteArray (λ s=>s.size<=maxLen):=
 ⟨hc,λ enc w base sp held fuel cs x h=>by
  obtain ⟨n,h1,_,h2⟩:=DataW.trod_string ht h
  exact ⟨n,h1,h2⟩⟩
theorem jr {H:Type} {enc:TypeId × Value->H} {P:Program} {w:World} {base:Nat} {sp:Nat->Bool} {held:Bool} {fuel:Nat} {t:TypeId} {fs:Array Field} {cs:List Value} {x:DataW H × List MemPlace}
  (ht:P.underlying t=some (.struct fs)) (h:DataW.trod enc P w base sp held fuel t cs=some x) :
  cs.length=P.cellsOf t/\∃ n,∀ (i:Nat) (f:Field),fs[i]? = some f->∃ y,DataW.trod enc P w base sp held n f.type ((cs.drop f.offset).take (P.cellsOf f.type))=some y:=by
 obtain ⟨xs,n,_,_,hl,hs,hf⟩:=DataW.trod_struct ht h
 refine ⟨hl,n,λ i f hi=>?_⟩
 have eU:i<xs.length:=by rw [hs]; exact (Array.getElem?_eq_some_iff.1 hi).1
 exact ⟨xs[i],by rw [hf i f hi,List.getElem?_eq_getElem eU]⟩
theorem cQ {cs:List Value} {o s:Nat} {r:List Value} (h:(cs.drop o).take s=r):cs.drop o=r++cs.drop (o+s):=by
 rw [<- h,<- List.drop_drop,List.take_append_drop]
theorem VU {α:Type} {p:Nat->α->Prop}:∀ n,(∀ i,i<n->∃ x,p i x)->∃ xs:List α,xs.length=n/\∀ i x,xs[i]? = some x->p i x:=by
 intro n
 induction n with
 | zero=>intro _; exact ⟨[],rfl,by simp⟩
 | succ n ih=>
  intro h
  obtain ⟨xs,h1,h2⟩:=ih λ i hi=>h i (by omega)
  obtain ⟨x,hx⟩:=h n (by omega)
  refine ⟨xs++[x],by simp [h1],λ i y hy=>?_⟩
  by_cases hi:i<n
  ·rw [List.getElem?_append_left (by omega)] at hy; exact h2 i y hy
  ·have eU:i<(xs++[x]).length:=(List.getElem?_eq_some_iff.1 hy).1
   have:i=n:=by simp [h1] at eU; omega
   subst this
   rw [List.getElem?_append_right (by omega),h1] at hy
   simp at hy
   rw [<- hy]; exact hx
theorem Jf {α:Type} [Flat α] {xs:List α} {j:Nat} {c:Value} (h:(flat xs)[j]? = some c):∃ i r x,xs[i]? = some x/\(Flat.enc x)[r]? = some c/\j=i * Flat.sz α+r:=by
 have eU:j<(flat xs).length:=(List.getElem?_eq_some_iff.1 h).1
 rw [bZ] at eU
 have hp:0<Flat.sz α:=Flat.pos
 have hi:j / Flat.sz α<xs.length:=Nat.div_lt_of_lt_mul (by rw [Nat.mul_comm]; exact eU)
 have hr:j % Flat.sz α<Flat.sz α:=Nat.mod_lt _ hp
 have hj:j=j / Flat.sz α * Flat.sz α+j % Flat.sz α:=by rw [Nat.mul_comm]; exact (Nat.div_add_mod _ _).symm
 have hx:xs[j / Flat.sz α]? = some (xs[j / Flat.sz α]):=List.getElem?_eq_getElem hi
 have hc:(Flat.enc (xs[j / Flat.sz α]))[j % Flat.sz α]? = some ((Flat.enc (xs[j / Flat.sz α]))[j % Flat.sz α]'(by rw [Flat.len]; exact hr)):=List.getElem?_eq_getElem _
 have:=pq hx hc
 rw [<- hj,h] at this
 exact ⟨_,_,_,hx,hc.trans this.symm,hj⟩
section
variable {H:Type} {enc:TypeId × Value->H} {P:Program} {w:World} {base:Nat} {held:Bool}
def DX (P:Program) (ts:List TypeId):Bool:=ts.all λ t=>P.readableRec t && decide (t<P.types.size)
theorem uj (hl:laidOutB P=true) {W W':World} (hb:Below W.heap.size W W') {sp:Nat->Bool}:∀ {ts:List TypeId} {vs:List Value} {ds:List (DataW H)} {ps:List MemPlace},DX P ts=true->(∀ x∈ps,x.block<W.heap.size)->
  (∀ x∈ps,sp x.block=true)->DataW.TrodAll enc P W 0 (λ _=>true) true ts vs ds ps->DataW.TrodAll enc P W' 0 sp true ts vs ds ps
 | [],vs,ds,ps,_,_,_,h=>by obtain ⟨rfl,rfl,rfl⟩:=trodAll_nil h; exact trodAll_mk0
 | t::ts,vs,ds,ps,hr,eU,Nx,h=>by
  obtain ⟨v,vs1,d,ds1,a,b,rfl,rfl,rfl,h1,h2⟩:=trodAll_cons h
  have Fa:P.readableRec t=true/\t<P.types.size/\DX P ts=true:=by
   unfold DX at hr
   rw [List.all_cons,Bool.and_eq_true,Bool.and_eq_true,decide_eq_true_eq] at hr
   exact ⟨hr.1.1,hr.1.2,hr.2⟩
  refine trodAll_cons_mk (WideElems.Trod_stays hl Fa.1 Fa.2.1 h1 (λ x hx=>hb.same (eU x (List.mem_append_left _ hx))) (λ x hx=>Nx x (List.mem_append_left _ hx))) ?_
  exact uj hl hb Fa.2.2 (λ x hx=>eU x (List.mem_append_right _ hx)) (λ x hx=>Nx x (List.mem_append_right _ hx)) h2
theorem post_true {f:Func} {s:ChangeSpec} {apart fresh handsOn again:Bool} {W W':World} {args:Array Value} {ds gs:List (DataW H)} {before:List MemPlace} {tb:TypeId}
  (ZT:s.vars=[]) (hfn:∀ ds:List (DataW H),ds.length=f.params.size->s.fn H ds={results:=[.lit (.bool true)],args:=ds}) (ag0:f.resultTypes = #[tb]) (htb:P.underlying tb=some .bool)
  (hl:laidOutB P=true) (FR:DX P f.params.toList=true)
  (hW:DataW.Whole enc P f.params.toList s.vars apart W args.toList ds gs before) (hb:Below W.heap.size W W') :
  s.post enc P f apart fresh handsOn again W args (.bool true) W':=by
 have hW':=hW
 obtain ⟨p,q,hA,hV,hpq,hz,hn⟩:=hW
 have eU:∀ x∈before,x.block<W.heap.size:=hW'.lt
 rw [ZT] at hV
 obtain ⟨rfl,rfl⟩:=trodVars_none hV
 simp only [List.append_nil] at hpq
 have hlen:ds.length=f.params.size:=by
  have:=(trodAll_length hA).2
  simpa using this
 have ab3:=hfn ds hlen
 have ZU:∀ (b:Nat) (sp:Nat->Bool) (hd:Bool),DataW.TrodAll enc P W' b sp hd f.resultTypes.toList ((Value.bool true).resultList f.resultTypes.size) (s.fn H (ds++[])).results []:=λ b sp hd=>by
  rw [List.append_nil,ab3,ag0]
  exact trodAll_mk1 (shut_bool htb true)
 have hargs:∀ sp:Nat->Bool,(∀ p∈before,sp p.block=true)->DataW.TrodAll enc P W' 0 sp true f.params.toList args.toList (s.fn H (ds++[])).args before:=λ sp Nx=>by
  rw [List.append_nil,ab3]
  rw [hpq] at eU Nx |-
  exact uj hl hb FR eU Nx hA
 have QC:∀ sp:Nat->Bool,DataW.TrodVars enc P W' sp s.vars (s.fn H (ds++[])).vars []:=λ sp=>by
  rw [List.append_nil,ab3,ZT]; rfl
 have ga:∀ (j:Nat) (t:TypeId) (r:Value),f.resultTypes[j]? = some t->((Value.bool true).resultList f.resultTypes.size)[j]? = some r->Value.okWide P W' .any 0 t r:=
  ok_one ag0 rfl (okWide_bool_mk htb true)
 have hold:∀ p∈before,(λ b=>decide (b<W.heap.size)) p.block=true:=λ p hp=>by simpa using eU p hp
 refine ⟨ds,[],before,[],before,[],hW',ZU _ _ _,hargs _ hold,QC _,World.keptBut_mono (λ p hp=>⟨hp,?_⟩) (hb.frame (·∈before)),λ _=>?_⟩
 ·simpa using hp
 refine ⟨ga,_,_,([]++before)++[],⟨[]++before,[],trodAll_append (hargs _ (λ _ _=>rfl)) (ZU _ _ _),QC _,rfl,?_,?_⟩,?_⟩
 ·intro b off hp
  have hp':MemPlace.cell b off∈before:=by simpa using hp
  rw [hb.frozen (p:=⟨b,off,none⟩) (eU _ hp')]
  exact hz b off hp'
 ·intro ha; simpa using hn ha
 intro p hp _; simpa using hp
end
section
variable {P:Program} {α:Type} [Flat α]
def ag1 (P:Program) (T n E:Nat):Prop:=P.underlying T=some (.array n E)/\pr P (sizeOf E)=some 1
theorem lh {T E n b o:Nat} {i:Int} {K:Value->Prop} (h:ag1 P T n E) (h0:0<=i) (h1:i<n) (k:K (.pointer (some ⟨b,o+i.toNat,none⟩))) :
  cU P (Instr.indexAt T (.pointer (some ⟨b,o,none⟩)) (.int .i64 i)) K:=by
 refine ⟨_,?_,k⟩
 unfold Instr.indexAt
 have e1:pr P (underlying T)=some (.array n E):=aM h.1
 have e3:pr P (Instr.sureAddr (.pointer (some (⟨b,o,none⟩:Addr))))=some ⟨b,o,none⟩:=rfl
 simp only [asIntOf,aK,e1,Option.bind_some,cR,e3]
 simp only [if_pos (show 0<=i/\i<(n:Int) from ⟨h0,h1⟩),aK,h.2,Option.bind_some,cR,dK,Nat.mul_one]
end
theorem Lo {α:Type} [Flat α] {P:Program} {w w0:World} {A:Nat->Prop} {L:List HP} {xs:List α} {T:Nat} {v p:Value} {i:Nat} {x:α} (hs:St w0 A (bJ v xs::L) w) (ht:bT P T=some (Flat.agg α,Flat.sz α)) (hp:B9 α v i p) (hx:xs[i]? = some x) :
  (Instr.loadAt T p).run P w = .ok (Flat.val x) w:=by
 obtain ⟨F,h,_⟩:=hs.head
 obtain ⟨b,cap,rest,hv,hb,hl,_⟩:=nB h (List.getElem?_eq_some_iff.1 hx).1
 obtain ⟨b',n,c,oP,rfl⟩:=hp
 rw [hv] at oP
 simp only [Value.slice.injEq,Option.some.injEq,Addr.mk.injEq] at oP
 obtain ⟨⟨rfl,_,_⟩,_,_⟩:=oP
 refine fZ (S:=λ _=>True) ht ⟨b,i * Flat.sz α,rfl,trivial,λ j c hj=>hb.cell ?_⟩
 have:=pq hx hj
 rw [List.getElem?_append_left (List.getElem?_eq_some_iff.1 this).1]; exact this
class Deep (α:Type) (σ:outParam Type) [Flat σ] where
 dr:World->σ->α->Prop
 ext:∀ {w w':World} {s:σ} {x:α},dr w s x->Ext w w'->dr w' s x
def DL {α σ:Type} [Flat σ] [Deep α σ] (w:World) (v:Value) (xs:List α):Prop:=
 ∃ ts:List σ,dx (λ _=>True) w v ts/\ts.length=xs.length/\∀ (i:Nat) (t:σ) (x:α),ts[i]? = some t->xs[i]? = some x->Deep.dr w t x
section
variable {P:Program} {α σ:Type} [Flat σ] [Deep α σ] {w w' w0:World} {v:Value} {A:Nat->Prop} {L:List HP}
theorem DL.ext {xs:List α} (h:DL w v xs) (e:Ext w w'):DL w' v xs:=by
 obtain ⟨ts,h1,h2,h3⟩:=h; exact ⟨ts,h1.ext e,h2,λ i t x a b=>Deep.ext (h3 i t x a b) e⟩
theorem DL.nil (w:World):DL w (.slice none 0 0) ([]:List α):=⟨[],dx.nil _ _,rfl,λ i t x h=>by simp at h⟩
theorem DL.eT {xs:List α} (h:DL w v xs):∃ s:SV,v=Flat.val s:=by obtain ⟨_,h,_⟩:=h; exact h.eT
instance:Deep (List α) SV where
 dr w s xs:=DL w (Flat.val s) xs
 ext h e:=DL.ext h e
def e9 (Φ:World->Prop):HP where
 p w F:=(∀ w':World,(∀ b,F b->w'.heap[b]? = w.heap[b]?)->Φ w')/\∀ b,F b->b<w.heap.size
 loc w w' F h hh:=⟨λ w2 h2=>h.1 w2 λ b hb=>(h2 b hb).trans (hh b hb),λ b hb=>by
  have:=h.2 b hb
  have h3:=hh b hb
  rw [Array.getElem?_eq_getElem this] at h3
  exact (Array.getElem?_eq_some_iff.1 h3).1⟩
 lt w F b h hb:=h.2 b hb
theorem e9.now {Φ:World->Prop} {F:Nat->Prop} (h:(e9 Φ).p w F):Φ w:=h.1 w λ _ _=>rfl
theorem St.e9 {Φ:World->Prop} (hs:St w0 A (e9 Φ::L) w):Φ w:=by obtain ⟨F,h,_⟩:=hs.head; exact e9.now h
theorem St.fC {Φ Ψ:World->Prop} (hs:St w0 A (Fw.e9 Φ::L) w) (hk:∀ w,Φ w->Ψ w):St w0 A (Fw.e9 Ψ::L) w:=
 hs.kV λ F hF=>⟨F,⟨λ w' h=>hk _ (hF.1 w' h),hF.2⟩,λ b hb=>.inl hb,gM.refl _ _⟩
theorem St.ey {Φ Ψ:World->Prop} (hs:St w0 A (Fw.e9 Φ::Fw.e9 Ψ::L) w):St w0 A (Fw.e9 (λ w=>Φ w/\Ψ w)::L) w:=by
 have h:=St.join hs
 refine h.kV λ F hF=>?_
 obtain ⟨F1,F2,h1,h2,h3,h4⟩:=hF
 refine ⟨F,⟨λ w' hh=>⟨h1.1 w' λ b hb=>hh b ((h4 b).2 (.inl hb)),h2.1 w' λ b hb=>hh b ((h4 b).2 (.inr hb))⟩,λ b hb=>?_⟩,λ b hb=>.inl hb,gM.refl _ _⟩
 rcases (h4 b).1 hb with hb | hb
 ·exact h1.2 b hb
 exact h2.2 b hb
theorem St.rZ {Φ:World->Prop} (hs:St w0 A L w) (h:∀ w,Φ w):St w0 A (Fw.e9 Φ::L) w:=
 hs.new (Ext.refl w) (F:=bD) ⟨λ w' _=>h w',λ b hb=>hb.elim⟩ λ _ h=>h.elim
theorem St.freeze {xs:List σ} (hs:St w0 A (bJ v xs::L) w):St w0 A (Fw.e9 (λ w=>dx (λ _=>True) w v xs)::L) w:=
 hs.kV λ F hF=>⟨F,⟨λ w' h=>(bJ.rd ((bJ v xs).loc _ _ _ hF h)).mono λ _ _=>trivial,λ b hb=>(bJ v xs).lt _ _ _ hF hb⟩,λ b hb=>.inl hb,gM.refl _ _⟩
theorem St.nD {b:Nat} {cs:List Value} (hs:St w0 A (cP b cs::L) w):St w0 A (Fw.e9 (λ w=>q9 w b cs)::L) w:=
 hs.kV λ F hF=>⟨F,⟨λ w' h=>((cP b cs).loc _ _ _ hF h).1,λ k hk=>(cP b cs).lt _ _ _ hF hk⟩,λ b hb=>.inl hb,gM.refl _ _⟩
def jR (ts:List σ) (xs:List α) (w:World):Prop:=ts.length=xs.length/\∀ (i:Nat) (t:σ) (x:α),ts[i]? = some t->xs[i]? = some x->Deep.dr w t x
theorem jR.nil:jR ([]:List σ) ([]:List α) w:=⟨rfl,λ i t x h=>by simp at h⟩
theorem jR.snoc {ts:List σ} {xs:List α} {t:σ} {x:α} (h:jR ts xs w) (ht:Deep.dr w t x):jR (ts++[t]) (xs++[x]) w:=by
 refine ⟨by rw [List.length_append,List.length_append,h.1]; rfl,λ i t' x' h1 h2=>?_⟩
 rcases Nat.lt_or_ge i ts.length with hi | hi
 ·rw [List.getElem?_append_left hi] at h1
  rw [List.getElem?_append_left (by rw [<- h.1]; exact hi)] at h2
  exact h.2 i t' x' h1 h2
 have eU:=(List.getElem?_eq_some_iff.1 h1).1
 rw [List.length_append,List.length_singleton] at eU
 obtain rfl:i=ts.length:=by omega
 rw [List.getElem?_append_right (Nat.le_refl _),Nat.sub_self] at h1
 rw [List.getElem?_append_right (by rw [h.1]; exact Nat.le_refl _),h.1,Nat.sub_self] at h2
 rw [<- Option.some.inj h1,<- Option.some.inj h2]; exact ht
theorem jR.append {ts us:List σ} {xs ys:List α} (h:jR ts xs w) (g:jR us ys w):jR (ts++us) (xs++ys) w:=by
 refine ⟨by rw [List.length_append,List.length_append,h.1,g.1],λ i t' x' h1 h2=>?_⟩
 rcases Nat.lt_or_ge i ts.length with hi | hi
 ·rw [List.getElem?_append_left hi] at h1
  rw [List.getElem?_append_left (by rw [<- h.1]; exact hi)] at h2
  exact h.2 i t' x' h1 h2
 rw [List.getElem?_append_right hi] at h1
 rw [List.getElem?_append_right (by rw [<- h.1]; exact hi),<- h.1] at h2
 exact g.2 _ t' x' h1 h2
theorem jR.ext {ts:List σ} {xs:List α} (h:jR ts xs w) (e:Ext w w'):jR ts xs w':=⟨h.1,λ i t x a b=>Deep.ext (h.2 i t x a b) e⟩
theorem DL.of {ts:List σ} {xs:List α} (h:dx (λ _=>True) w v ts) (g:jR ts xs w):DL w v xs:=⟨ts,h,g.1,g.2⟩
theorem DL.open {xs:List α} (h:DL w v xs):∃ ts:List σ,dx (λ _=>True) w v ts/\jR ts xs w:=by obtain ⟨ts,h1,h2,h3⟩:=h; exact ⟨ts,h1,h2,h3⟩
theorem jR.take {ts:List σ} {xs:List α} (h:jR ts xs w) (k:Nat):jR (ts.take k) (xs.take k) w:=by
 refine ⟨by rw [List.length_take,List.length_take,h.1],λ i t x a b=>?_⟩
 rw [List.getElem?_take] at a b
 split at a
 ·rename_i hi; rw [if_pos hi] at b; exact h.2 i t x a b
 cases a
theorem jR.drop {ts:List σ} {xs:List α} (h:jR ts xs w) (k:Nat):jR (ts.drop k) (xs.drop k) w:=by
 refine ⟨by rw [List.length_drop,List.length_drop,h.1],λ i t x a b=>?_⟩
 rw [List.getElem?_drop] at a b
 exact h.2 _ t x a b
end
section
variable {α:Type} [Flat α]
abbrev gA:Deep α α:=⟨λ _ s x=>s=x,λ h _=>h⟩
theorem Cg [D:Deep α α] (hD:∀ w s x,D.dr w s x↔s=x) {w:World} {ts xs:List α}:jR ts xs w↔ts=xs:=by
 constructor
 ·rintro ⟨h1,h2⟩
  refine List.ext_getElem? λ i=>?_
  rcases Nat.lt_or_ge i ts.length with hi | hi
  ·have a:=List.getElem?_eq_getElem hi
   have b:=List.getElem?_eq_getElem (l:=xs) (by rw [<- h1]; exact hi)
   rw [a,b,(hD _ _ _).1 (h2 i _ _ a b)]
  rw [List.getElem?_eq_none hi,List.getElem?_eq_none (by rw [<- h1]; exact hi)]
 rintro rfl
 exact ⟨rfl,λ i t x a b=>(hD _ _ _).2 (Option.some.inj (a.symm.trans b))⟩
end
instance:Deep Int Int:=gA
instance:Deep Bool Bool:=gA
instance:Deep ByteArray ByteArray:=gA
structure RdW (P:Program) (w:World) (t:TypeId) (α:Type) [Flat α] (φ:α->Prop):Prop where
 cells:P.cellsOf t=Flat.sz α
 rd:∀ {H:Type} (enc:TypeId × Value->H) (base:Nat) (held:Bool) (fuel:Nat) (cs:List Value) (x:DataW H × List MemPlace),
  DataW.trod enc P w base (λ _=>true) held fuel t cs=some x->∃ a:α,cs=Flat.enc a/\φ a
def um (P:Program) (t:TypeId) (α:Type) {σ:Type} [Flat σ] [Deep α σ] (φ:α->Prop):Prop:=∀ w,RdW P w t σ (λ s=>∃ a:α,Deep.dr w s a/\φ a)
theorem RdT.deep {P:Program} {t:TypeId} {α:Type} [Flat α] [D:Deep α α] {φ:α->Prop} (h:RdT P t α φ) (hD:∀ w (x:α),D.dr w x x):um P t α φ:=
 λ w=>⟨h.cells,λ enc base held fuel cs x hx=>by
  obtain ⟨a,h1,h2⟩:=h.rd enc w base _ held fuel cs x hx; exact ⟨a,h1,a,hD w a,h2⟩⟩
section
variable {H:Type} {enc:TypeId × Value->H} {P:Program} {w:World} {base:Nat} {held:Bool}
theorem FT {α:Type} [Flat α] {φ:α->Prop} {t e:TypeId} {fuel:Nat} {cs:List Value} {x:DataW H × List MemPlace} (ht:P.underlying t=some (.slice e)) (hr:RdW P w e α φ)
  (h:DataW.trod enc P w base (λ _=>true) held fuel t cs=some x):∃ v,cs=[v]/\∃ xs:List α,dx (λ b=>b<w.heap.size) w v xs/\∀ x∈xs,φ x:=by
 rcases DataW.trod_slice ht h with ⟨rfl,_⟩ | ⟨a,len,cap,elems,rest,n,_,rfl,_,hb,hl,hm,hlen,IH,Nx,_⟩
 ·exact ⟨_,rfl,[],dx.nil _ _,by simp⟩
 refine ⟨_,rfl,?_⟩
 have get:∀ i,i<len->∃ x:α,φ x/\w.cells? base (a.add (i * P.cellsOf e)) (P.cellsOf e)=some (Flat.enc x):=by
  intro i hi
  have h1:=IH i hi
  rw [List.getElem?_eq_getElem (by omega)] at h1
  obtain ⟨cs',h2,h3⟩:=Option.bind_eq_some_iff.1 h1
  obtain ⟨x,rfl,hx⟩:=hr.rd enc base held n cs' _ h3
  exact ⟨x,hx,h2⟩
 obtain ⟨xs,hxl,hxs⟩:=VU len get
 have iN:=hr.cells
 have uJ:0<Flat.sz α:=Flat.pos
 have first:∀ (c:Nat) (cs':List Value),w.cells? base (a.add (c * P.cellsOf e)) (P.cellsOf e)=some cs'->c=0->a.spot=none:=by
  intro c cs' h1 h0
  subst h0
  have:=World.cells?_some h1
  have h2:=this.2.2 0 (by rw [iN]; exact uJ)
  rw [Nat.zero_mul] at h2
  have h3:w.cell? a=cs'[0]?:=by simpa [Addr.add] using h2
  rw [List.getElem?_eq_getElem (by rw [this.2.1,iN]; exact uJ)] at h3
  unfold World.cell? at h3
  split at h3
  ·split at h3
   ·cases h3
   ·rename_i hs; simpa using hs
  ·cases h3
 refine ⟨xs,⟨some a,cap,by rw [hxl],by omega,?_⟩,λ x hx=>?_⟩
 ·by_cases ug:cap=0
  ·exact .inl ⟨List.length_eq_zero_iff.1 (by omega),ug⟩
  right
  have Lp:a.spot=none:=by
   by_cases h0:0<len
   ·obtain ⟨x,_,hx⟩:=get 0 h0
    exact first 0 _ hx rfl
   ·obtain ⟨h1,h2⟩:=Nx rfl
    have h3:=h2 0 (by omega)
    rw [List.getElem?_eq_getElem (by omega)] at h3
    obtain ⟨cs',h4,_⟩:=Option.bind_eq_some_iff.1 h3
    exact first (len+0) _ h4 (by omega)
  have ZV:∀ j c,(flat xs)[j]? = some c->Cell w a.block (a.off+j) c:=by
   intro j c hj
   obtain ⟨i,r,x,hx,QD,rfl⟩:=Jf hj
   have h1:=(World.cells?_some (hxs i x hx).2).2.2 r (by rw [iN]; have:=(List.getElem?_eq_some_iff.1 QD).1; rwa [Flat.len] at this)
   rw [QD,iN] at h1
   obtain ⟨b,o,s⟩:=a
   simp only at Lp
   subst Lp
   unfold Cell
   rw [<- h1,dK,dK,Nat.add_assoc]
  refine ⟨a.block,a.off,by obtain ⟨b,o,s⟩:=a; simp only at Lp; subst Lp; rfl,λ iS=>?_,ZV⟩
  obtain ⟨y,ys,rfl⟩:=List.exists_cons_of_ne_nil iS
  have h0:(flat (y::ys))[0]? = some ((Flat.enc y)[0]'(by rw [Flat.len]; exact uJ)):=by
   rw [gP,List.getElem?_append_left (by rw [Flat.len]; exact uJ),List.getElem?_eq_getElem]
  exact (ZV 0 _ h0).lt
 obtain ⟨i,hi⟩:=List.getElem?_of_mem hx
 exact (hxs i x hi).1
theorem Jg {α σ:Type} [Flat σ] [Deep α σ] {φ:α->Prop}:∀ (ts:List σ),(∀ s∈ts,∃ a:α,Deep.dr w s a/\φ a)->∃ xs:List α,jR ts xs w/\∀ x∈xs,φ x
 | [],_=>⟨[],jR.nil,by simp⟩
 | t::ts,h=>by
  obtain ⟨a,h1,h2⟩:=h t (by simp)
  obtain ⟨xs,h3,h4⟩:=Jg ts λ s hs=>h s (List.mem_cons_of_mem _ hs)
  refine ⟨a::xs,?_,λ x hx=>?_⟩
  ·have:jR ([]++[t]) ([]++[a]) w:=jR.nil.snoc h1
   exact this.append h3
  ·rcases List.mem_cons.1 hx with rfl | hx
   ·exact h2
   ·exact h4 x hx
theorem um.slice {α σ:Type} [Flat σ] [Deep α σ] {φ:α->Prop} {t e:TypeId} (ht:P.underlying t=some (.slice e)) (hc:P.cellsOf t=1) (hr:um P e α φ):um P t (List α) (λ xs=>∀ x∈xs,φ x):=
 λ w=>⟨hc,λ enc base held fuel cs x hx=>by
  obtain ⟨v,rfl,ts,h1,h2⟩:=FT ht (hr w) hx
  obtain ⟨xs,h3,h4⟩:=Jg ts h2
  have h1':dx (λ _=>True) w v ts:=h1.mono λ _ _=>trivial
  obtain ⟨s,rfl⟩:=h1'.eT
  exact ⟨s,rfl,xs,DL.of h1' h3,h4⟩⟩
theorem open_dl {α σ:Type} [Flat σ] [Deep α σ] {φ:α->Prop} {t e:TypeId} {r:Reach} {b0:Nat} {v:Value} {d:DataW H} {ps:List MemPlace} (ht:P.underlying t=some (.slice e)) (hr:um P e α φ)
  (hval:Value.okWide P w r b0 t v) (hd:DataW.Trod enc P w base (λ _=>true) held t v d ps):∃ xs:List α,DL w v xs/\∀ x∈xs,φ x:=by
 obtain ⟨fuel,hf⟩:=hd
 obtain ⟨u,hu,ts,h1,h2⟩:=FT ht (hr w) hf
 have hv:v=u:=by
  have h1:=hval
  unfold Value.okWide at h1
  rw [ht] at h1
  cases v with
  | slice a n c=>exact (List.cons.inj (show [Value.slice a n c]=[u] from hu)).1
  | _=>
   have h2:Cell.okWide P w r b0 t _:=h1
   unfold Cell.okWide at h2
   rw [ht] at h2
   simp only [Cell.ok,ht] at h2
 subst hv
 obtain ⟨xs,h3,h4⟩:=Jg ts h2
 exact ⟨xs,DL.of (h1.mono λ _ _=>trivial) h3,h4⟩
theorem open_dst {α σ:Type} [Flat σ] [Deep α σ] {φ:α->Prop} {t:TypeId} {fs:Array Field} {r:Reach} {b0:Nat} {v:Value} {d:DataW H} {ps:List MemPlace} (ht:P.underlying t=some (.struct fs)) (ha:Flat.agg σ=true)
  (hr:um P t α φ) (hval:Value.okWide P w r b0 t v) (hd:DataW.Trod enc P w base (λ _=>true) held t v d ps):∃ (s:σ) (x:α),v=Flat.val s/\Deep.dr w s x/\φ x:=by
 obtain ⟨fuel,hf⟩:=hd
 obtain ⟨s,hs,x,h1,h2⟩:=(hr w).rd enc base held fuel _ _ hf
 unfold Value.okWide at hval
 rw [ht] at hval
 obtain ⟨cs,rfl,_⟩:=hval
 refine ⟨s,x,?_,h1,h2⟩
 rw [Flat.mo ha,<- hs]
 simp [Value.cells]
end
def Bt (x:Int):Int:=IntKind.i64.wrap x
theorem DY {x:Int} (h : -9223372036854775808<=x/\x<=9223372036854775807):Bt x=x:=IntWalk.i64_in _ h
section
variable {P:Program} {T:Nat} {cx cy:Bool} {a b:Int} {K:Value->Prop}
theorem vP (k:K (.int .i64 (Bt (a+b)))):cU P (fL .add T cx cy (.int .i64 a) (.int .i64 b)) K:=⟨_,rfl,k⟩
theorem QE (k:K (.int .i64 (Bt (a - b)))):cU P (fL .sub T cx cy (.int .i64 a) (.int .i64 b)) K:=⟨_,rfl,k⟩
theorem FU (k:K (.int .i64 (Bt (a * b)))):cU P (fL .mul T cx cy (.int .i64 a) (.int .i64 b)) K:=⟨_,rfl,k⟩
theorem QF (k:K (.int .i64 (Bt (0 - a)))):cU P (Op.unary .neg (.int .i64 a)) K:=⟨_,rfl,k⟩
theorem QG (h:b≠0) (k:K (.int .i64 (Bt (a.tdiv b)))):cU P (fL .quo T cx cy (.int .i64 a) (.int .i64 b)) K:=by
 refine ⟨_,?_,k⟩
 show pr P (Op.intDiv .quo .i64 a b)=_
 unfold Op.intDiv
 rw [if_neg h]; rfl
theorem QH (h:b≠0) (k:K (.int .i64 (a.tmod b))):cU P (fL .rem T cx cy (.int .i64 a) (.int .i64 b)) K:=by
 refine ⟨_,?_,k⟩
 show pr P (Op.intDiv .rem .i64 a b)=_
 unfold Op.intDiv
 rw [if_neg h]; rfl
end
theorem Jh {α:Type} [Flat α] {P:Program} {w w0:World} {A:Nat->Prop} {L:List HP} {xs:List α} {T E by':Nat} {z:Option Nat} {v:Value} {i:Int} {K:Value->Prop} (ht:cT P T=some (E,Flat.sz α,by',z))
  (hs:St w0 A (bJ v xs::L) w) (h0:0<=i) (h1:i<=xs.length) (k:∀ v',St w0 A (bJ v' (xs.take i.toNat)::L) w->K v'):cU P (Instr.sliceAt T v none (some (.int .i64 i)) none) K:=by
 obtain ⟨a,cap,hv,vA,_⟩:=hs.gg
 refine ⟨_,(by rw [hv]; exact rO ht (kJ (.inl ⟨rfl,rfl⟩) (.inr ⟨i,rfl,h0,rfl⟩) (Nat.zero_le _) (by omega))),k _ ?_⟩
 refine hs.kV λ F hF=>?_
 rcases hF with ⟨hv0,hx,eA⟩ | ⟨b,BC,rest,oP,hb,hl,hF⟩
 ·rw [hv0] at hv
  subst hx
  simp only [Value.slice.injEq] at hv
  obtain ⟨rfl,_,rfl⟩:=hv
  have hi:i.toNat=0:=by simp at h1; omega
  refine ⟨F,.inl ⟨?_,by simp,eA⟩,λ b hb=>.inl hb,gM.refl _ _⟩
  rw [hi]; rfl
 rw [oP] at hv
 simp only [Value.slice.injEq] at hv
 obtain ⟨rfl,_,rfl⟩:=hv
 refine ⟨F,.inr ⟨b,BC,flat (xs.drop i.toNat)++rest,?_,?_,?_,hF⟩,λ b hb=>.inl hb,gM.refl _ _⟩
 ·have vi:(xs.take i.toNat).length=i.toNat:=by rw [List.length_take]; omega
  rw [vi]
  simp [dK]
 ·rw [<- List.append_assoc,<- fJ,List.take_append_drop]; exact hb
 exact ⟨Nat.le_trans (by rw [List.length_take]; omega) hl.1,by rw [<- List.append_assoc,<- fJ,List.take_append_drop]; exact hl.2⟩
section
variable {P:Program} {w w':World} {v:Value}
theorem DL.flat {α:Type} [Flat α] [D:Deep α α] {xs:List α} (h:DL w v xs) (hD:∀ w s x,D.dr w s x↔s=x:=by intros; exact Iff.rfl):dx (λ _=>True) w v xs:=by
 obtain ⟨ts,h1,h2⟩:=h.open
 rw [(Cg hD).1 h2] at h1; exact h1
theorem DL.jS {α:Type} [Flat α] [D:Deep α α] {xs:List α} (h:dx (λ _=>True) w v xs) (hD:∀ w s x,D.dr w s x↔s=x:=by intros; exact Iff.rfl):DL w v xs:=DL.of h ((Cg hD).2 rfl)
theorem QI {α:Type} [Flat α] {S:Nat->Prop} {xs:List α} {T E by':Nat} {z:Option Nat} {lo hi:Option Value} {l h:Nat} {K:Value->Prop} (ht:cT P T=some (E,Flat.sz α,by',z)) (hr:dx S w v xs)
  (hl:lo=none/\l=0\/∃ i:Int,lo=some (.int .i64 i)/\0<=i/\l=i.toNat) (hh:hi=none/\h=xs.length\/∃ i:Int,hi=some (.int .i64 i)/\0<=i/\h=i.toNat)
  (h1:l<=h) (h2:h<=xs.length) (k:∀ v',(∀ w',dx S w' v xs->dx S w' v' ((xs.take h).drop l))->K v'):cU P (Instr.sliceAt T v lo hi none) K:=by
 obtain ⟨a,cap,rfl,vA,h3⟩:=hr
 exact ⟨_,rO ht (kJ hl hh h1 (by omega)),k _ λ w' hw=>hw.cut rfl h1 h2⟩
theorem xf {α:Type} [Flat α] {S:Nat->Prop} {xs:List α} {T E by':Nat} {z:Option Nat} {i j:Int} {K:Value->Prop} (ht:cT P T=some (E,Flat.sz α,by',z)) (hr:dx S w v xs)
  (h0:0<=i) (h1:i<=j) (h2:j<=xs.length) (k:∀ v',(∀ w',dx S w' v xs->dx S w' v' ((xs.take j.toNat).drop i.toNat))->K v'):cU P (Instr.sliceAt T v (some (.int .i64 i)) (some (.int .i64 j)) none) K:=
 QI ht hr (.inr ⟨i,rfl,h0,rfl⟩) (.inr ⟨j,rfl,by omega,rfl⟩) (by omega) (by omega) k
theorem DL.cut {α σ:Type} [Flat σ] [Deep α σ] {xs:List α} {ts:List σ} {v':Value} {l h:Nat} (hq:∀ w',dx (λ _=>True) w' v ts->dx (λ _=>True) w' v' ((ts.take h).drop l)) (hR:dx (λ _=>True) w v ts) (hD:jR ts xs w):DL w v' ((xs.take h).drop l):=
 DL.of (hq w hR) ((hD.take h).drop l)
theorem qz {a b:ByteArray}:(a.toList == b.toList)=decide (a=b):=by
 rw [ByteArray.toList_eq,ByteArray.toList_eq,Bool.eq_iff_iff,beq_iff_eq,decide_eq_true_eq]
 constructor
 ·intro h
  obtain ⟨a⟩:=a
  obtain ⟨b⟩:=b
  simp only [ByteArray.mk.injEq]
  exact Array.toList_inj.1 h
 rintro rfl; rfl
theorem nE {T:Nat} {cx cy:Bool} {a b:ByteArray} {K:Value->Prop} (k:K (.bool (decide (a=b)))):cU P (fL .eql T cx cy (.string a) (.string b)) K:=by
 rw [<- qz] at k
 exact ⟨_,rfl,k⟩
theorem xg {T:Nat} {cx cy:Bool} {a b:ByteArray} {K:Value->Prop} (k:K (.bool (decide (¬ a=b)))):cU P (fL .neq T cx cy (.string a) (.string b)) K:=by
 refine ⟨_,rfl,?_⟩
 have:(!(a.toList == b.toList))=decide (¬ a=b):=by rw [qz]; by_cases h:a=b <;> simp [h]
 rw [this]; exact k
end
def oR (s:ByteArray):List UInt8:=s.data.toList
theorem kh (s:ByteArray):(oR s).length=s.size:=by unfold oR; rw [Array.length_toList]; rfl
theorem Lq (s:ByteArray) (i:Nat):(oR s)[i]? = if h:i<s.size then some (s[i]'h) else none:=by
 unfold oR
 by_cases h:i<s.size
 ·rw [dif_pos h,Array.getElem?_toList]
  exact Array.getElem?_eq_getElem h
 rw [dif_neg h,List.getElem?_eq_none]
 rw [Array.length_toList]; exact Nat.le_of_not_lt h
section
variable {P:Program} {T R:Nat} {cx cy:Bool} {a b:Int} {K:Value->Prop}
theorem j7 {s:ByteArray} (hT:P.underlying T=some .string) (k:K (.int .i64 (s.size:Int))):cU P (Builtin.len_ #[T] R [Value.string s].toArray) K:=by
 refine ⟨_,?_,k⟩
 show pr P (do
  match <- underlying T,Value.string s with
  | .string,.string s=>pure (goInt s.size)
  | .array n _,_=>pure (goInt n)
  | .pointer arr,_=>
   let .array n _ <- underlying arr | stuck "len: pointer to array expected"
   pure (goInt n)
  | .slice _,.slice _ n _=>pure (goInt n)
  | .map _ _,.map none | .chan _ _,.chan none=>pure (goInt 0)
  | .map _ _,.map (some r)=>
   let .map entries _ <- getObj r | stuck "len: map expected"
   pure (goInt entries.size)
  | .chan _ _,.chan (some r)=>
   let .chan _ buf _ _ _ timer <- getObj r | stuck "len: channel expected"
   pure (goInt (if timer then 0 else buf.size))
  | _, _ => stuck "len: string, array, pointer to array, slice, map or channel expected") = _
 rw [aK,aM hT]; rfl
theorem Lr {s:ByteArray} {i:Int} {e:UInt8} (hT:P.underlying T=some .string) (h0:0<=i) (he:(oR s)[i.toNat]? = some e) (k:K (.int .u8 (e.toNat:Int))):cU P (Instr.index T (.string s) (.int .i64 i)) K:=by
 refine ⟨_,?_,k⟩
 rw [Lq] at he
 have hi:i.toNat<s.size:=by
  by_cases h:i.toNat<s.size
  ·exact h
  ·rw [dif_neg h] at he; cases he
 rw [dif_pos hi] at he
 have h3:(if 0<=i then s[i.toNat]? else none)=some e:=by rw [if_pos h0,ByteArray.getElem?_lt' s _ hi,<- he]
 unfold Instr.index
 simp only [asIntOf,aK,aM hT,Option.bind_some,cR,h3]
theorem lW {s:ByteArray} {i:Int} (hT:P.underlying T=some .string) (h0:0<=i) (h1:i<=s.size) (k:K (.string (s.extract 0 i.toNat))):cU P (Instr.sliceAt T (.string s) none (some (.int .i64 i)) none) K:=by
 refine ⟨_,?_,k⟩
 unfold Instr.sliceAt
 rw [aK,aM hT]
 simp only [Option.bind_some]
 unfold Instr.slice
 rw [aK,aM hT]
 simp only [Option.bind_some]
 rw [if_neg (by decide)]
 have hb:pr P (Instr.sliceBounds false s.size s.size none (some (.int .i64 i)) none)=some (0,i.toNat,s.size):=by
  simp only [Instr.sliceBounds,aK,cR,Option.bind_some]
  rw [iI h0 h1]; rfl
 rw [aK,hb]; rfl
theorem FV (k:K (.bool (decide (a<=b)))):cU P (fL .leq T cx cy (.int .u8 a) (.int .u8 b)) K:=⟨_,rfl,k⟩
theorem FW (k:K (.bool (decide (b<=a)))):cU P (fL .geq T cx cy (.int .u8 a) (.int .u8 b)) K:=⟨_,rfl,k⟩
theorem FX (k:K (.bool (decide (a=b)))):cU P (fL .eql T cx cy (.int .u8 a) (.int .u8 b)) K:=⟨_,rfl,k⟩
theorem QJ {t:Array TypeId} {R:TypeId} {c:Int} (k:K (.int .i64 (max (max a b) c))):cU P (Builtin.max_ t R [.int .i64 a,.int .i64 b,.int .i64 c].toArray) K:=by
 refine ⟨_,?_,k⟩
 show pr P (do Builtin.max2 (<- Builtin.max2 (.int .i64 a) (.int .i64 b)) (.int .i64 c))=_
 have h:∀ x y:Int,pr P (Builtin.max2 (.int .i64 x) (.int .i64 y))=some (.int .i64 (max x y)):=by
  intro x y
  unfold Builtin.max2
  by_cases h:x<y
  ·simp [h,cR]; omega
  ·simp [h,cR]; omega
 rw [aK,h]
 exact h _ _
end
def fq {α σ:Type} [Flat σ] [Deep α σ] (v:Value) (xs:List α):HP:=yJ λ ts:List σ=>sep (bJ v ts) (e9 (jR ts xs))
section
variable {P:Program} {α σ:Type} [Flat σ] [D:Deep α σ] {w w' w0:World} {v src:Value} {A:Nat->Prop} {L:List HP} {xs ys:List α}
theorem St.Ch (hs:St w0 A (fq v xs::L) w):∃ ts:List σ,St w0 A (bJ v ts::Fw.e9 (jR ts xs)::L) w:=by
 obtain ⟨ts,h⟩:=hs.eH; exact ⟨ts,h.split⟩
theorem St.FY {ts:List σ} (hs:St w0 A (bJ v ts::Fw.e9 (jR ts xs)::L) w):St w0 A (fq v xs::L) w:=
 St.eb (H:=λ ts:List σ=>sep (bJ v ts) (Fw.e9 (jR ts xs))) ts (St.join hs)
theorem St.ag2 {ts:List σ} (hs:St w0 A (bJ v ts::Fw.e9 (jR ts xs)::L) w):ts.length=xs.length:=(hs.p1.e9).1
theorem St.DZ (hs:St w0 A L w):St w0 A (fq (.slice none 0 0) ([]:List α)::L) w:=
 St.FY (ts:=[]) ((hs.rZ λ _=>jR.nil).fy)
theorem St.anz (hs:St w0 A (bJ v ([]:List σ)::L) w):St w0 A (fq v ([]:List α)::L) w:=
 St.FY (ts:=[]) (hs.rZ (Φ:=jR ([]:List σ) ([]:List α)) λ _=>jR.nil).p1
theorem St.anA {s:σ} {x:α} (hs:St w0 A (bJ v [s]::Fw.e9 (λ w=>Deep.dr w s x)::L) w):St w0 A (fq v [x]::L) w:=by
 refine St.FY (ts:=[s]) ?_
 refine ((hs.p1.fC (Ψ:=jR [s] [x]) λ w h=>?_)).p1
 exact (jR.nil (w:=w)).snoc h
theorem St.anB {ts us:List σ} (hs:St w0 A (bJ v (ts++us)::Fw.e9 (jR ts xs)::Fw.e9 (jR us ys)::L) w):St w0 A (fq v (xs++ys)::L) w:=by
 have h1:=(hs.p1:St w0 A (Fw.e9 (jR ts xs)::bJ v (ts++us)::Fw.e9 (jR us ys)::L) w)
 have h2:=h1.p2.p1
 refine St.FY (ts:=ts++us) ?_
 exact ((h2.ey).fC (Ψ:=jR (ts++us) (xs++ys)) λ w h=>h.1.append h.2).p1
theorem St.gJ (hs:St w0 A (fq v xs::L) w):St w0 A (Fw.e9 (λ w=>DL w v xs)::L) w:=by
 obtain ⟨ts,h⟩:=hs.Ch
 exact (h.freeze.ey).fC λ w h=>DL.of h.1 h.2
theorem St.dl (hs:St w0 A (fq v xs::L) w):DL w v xs:=hs.gJ.e9
theorem St.oC (hs:St w0 A (fq v xs::L) w):∃ s:SV,v=Flat.val s:=hs.dl.eT
theorem St.enc {b:Nat} {cs cs':List Value} (hs:St w0 A (cP b cs::L) w) (h:cs=cs'):St w0 A (cP b cs'::L) w:=h▸hs
theorem sd {T E by':Nat} {K:Value->World->Prop} (hs:St w0 A L w) (ht:Qk P T E (Flat.sz σ) by') (k:∀ v w',St w0 A (fq v ([]:List α)::L) w'->K v w'):gd P (Instr.buildSlice T 0 ([]:List (Nat × Value)).toArray) w K:=
 cO ([]:List σ) hs ht rfl rfl (by simp) λ v w' h=>k v w' h.anz
theorem gu {T E by':Nat} {s:σ} {x:α} {K:Value->World->Prop} (hs:St w0 A (Fw.e9 (λ w=>Deep.dr w s x)::L) w) (ht:Qk P T E (Flat.sz σ) by') (hz:Flat.sz σ<=64) (k:∀ v w',St w0 A (fq v [x]::L) w'->K v w') :
  gd P (Instr.buildSlice T 1 [(0,Flat.val s)].toArray) w K:=
 cO [s] hs ht rfl rfl (by simp; omega) λ v w' h=>k v w' h.anA
theorem gv {T E by' R:Nat} {K:Value->World->Prop} (hs:St w0 A (fq v xs::fq src ys::L) w) (ht:Qk P T E (Flat.sz σ) by')
  (hn:xs.length+ys.length<=1073741824) (UX:by'<=8192) (k:∀ v' w',St w0 A (fq v' (xs++ys)::L) w'->K v' w'):gd P (Builtin.append_ #[T,T] R [v,src].toArray) w K:=by
 obtain ⟨us,h1⟩:=hs.p1.Ch
 obtain ⟨ts,h2⟩:=h1.p2.Ch
 have e1:=h1.ag2
 have e2:=h2.ag2
 refine dw h2 ht h2.p2.gg (by omega) UX λ v' w' h=>k v' w' ?_
 exact (h.p2.drop).anB
end
instance:Flat UInt8 where
 agg:=false
 sz:=1
 enc b:=[.int .u8 b.toNat]
 val b:=.int .u8 b.toNat
 pos:=by decide
 len _:=rfl
 one a v h:=by rw [List.mem_singleton.1 h]; rfl
 mo h:=by cases h
 mM _ _:=rfl
instance:Deep UInt8 UInt8:=gA
def oD {α σ:Type} [Flat σ] [Deep α σ] (P:Program) (w:World) (f:Value) (φ:α->Prop) (g:α->Bool):Prop:=∃ g0 first cap,f = .func (.func g0) (List.toArray first) (List.toArray cap)/\Plain P g0/\
 ∀ (s:σ) (x:α) w1,Ext w w1->Deep.dr w1 s x->φ x->Calls P g0 (first++[Flat.val s]++cap).toArray w1 (mW λ v w2=>v = .bool (g x)/\Ext w1 w2)
theorem oD.ext {α σ:Type} [Flat σ] [Deep α σ] {P:Program} {w w':World} {f:Value} {φ:α->Prop} {g:α->Bool} (h:oD P w f φ g) (e:Ext w w'):oD P w' f φ g:=by
 obtain ⟨g0,first,cap,h1,h2,h3⟩:=h; exact ⟨g0,first,cap,h1,h2,λ s x w1 e1=>h3 s x w1 (e.trans e1)⟩
theorem pD {α:Type} [Flat α] {P:Program} {S:Nat->Prop} {w:World} {T E:TypeId} {cx cy:Bool} {v:Value} {xs:List α} {K:Value->Prop} (h:P.underlying T=some (.slice E)) (hr:dx S w v xs) (k:∀ p:Bool,(p=true->xs=[])->K (.bool p)) :
  cU P (fL .eql T cx cy v (.slice none 0 0)) K:=by
 obtain ⟨a,cap,rfl,_,h3⟩:=hr
 have key:pr P (Op.equal T (.slice a xs.length cap) (.slice none 0 0))=some a.isNone:=by
  show pr P (Op.equalIn 10000 T (.slice a xs.length cap) (.slice none 0 0))=_
  unfold Op.equalIn
  rw [aK,aM h]
  cases a <;> rfl
 refine ⟨_,?_,k a.isNone λ ha=>?_⟩
 ·show pr P (do pure (Value.bool (<- Op.equal T (.slice a xs.length cap) (.slice none 0 0))))=_
  rw [m8,key]; rfl
 rcases h3 with h3 | ⟨b,o,rfl,_⟩
 ·exact h3.1
 cases ha
theorem QK {α β:Type} [Flat α] [Flat β] {P:Program} {w w0:World} {A:Nat->Prop} {L:List HP} {xs:List α} {T:Nat} {v p:Value} {i off:Nat} {x:α} (y:β) (hs:St w0 A (bJ v xs::L) w) (ht:bT P T=some (Flat.agg β,Flat.sz β)) (hp:DV α v i off p) (hx:xs[i]? = some x)
  (hy:((Flat.enc x).drop off).take (Flat.sz β)=Flat.enc y):(Instr.loadAt T p).run P w = .ok (Flat.val y) w:=by
 obtain ⟨v,h1,h2⟩:=(vO (K:=λ v=>v=Flat.val y) y hs ht hp hx hy rfl).ex
 rw [<- h2]; exact h1
structure Ptr where
 b:Nat
deriving DecidableEq
instance:Flat Ptr where
 agg:=false
 sz:=1
 enc p:=[.pointer (some ⟨p.b,0,none⟩)]
 val p:=.pointer (some ⟨p.b,0,none⟩)
 pos:=by decide
 len _:=rfl
 one a v h:=by rw [List.mem_singleton.1 h]; rfl
 mo h:=by cases h
 mM _ _:=rfl
instance:Deep Ptr Ptr:=gA
def gw {α κ:Type} (H:κ->α->HP):List κ->List α->HP
 | [],[]=>emp
 | p::ps,x::xs=>sep (H p x) (gw H ps xs)
 | _,_=>fact False emp
section
variable {P:Program} {α κ:Type} {H:κ->α->HP} {A:Nat->Prop} {w0 w:World} {L:List HP}
theorem xh:∀ {ps:List κ} {xs:List α} {F:Nat->Prop},(gw H ps xs).p w F->ps.length=xs.length
 | [],[],_,_=>rfl
 | s::ss,x::xs,F,h=>by
  obtain ⟨F1,F2,_,h2,_,_⟩:=h
  rw [List.length_cons,List.length_cons,xh h2]
 | [],_::_,_,h=>h.1.elim
 | _::_,[],_,h=>h.1.elim
theorem St.js {ps:List κ} {xs:List α} (hs:St w0 A (gw H ps xs::L) w):ps.length=xs.length:=by
 obtain ⟨F,h,_⟩:=hs.head; exact xh h
theorem St.FZ (hs:St w0 A L w):St w0 A (gw H [] []::L) w:=hs.new (Ext.refl w) (F:=bD) (λ _ h=>h) λ _ h=>h.elim
def m4 (H:κ->α->HP) (ps:List κ) (xs:List α) (i:Nat):HP:=sep (gw H (ps.take i) (xs.take i)) (gw H (ps.drop (i+1)) (xs.drop (i+1)))
theorem yg:∀ {ps:List κ} {xs:List α} {i:Nat} {p:κ} {x:α} {F:Nat->Prop},(gw H ps xs).p w F->ps[i]? = some p->xs[i]? = some x->(sep (H p x) (m4 H ps xs i)).p w F
 | p'::ps,x'::xs,0,p,x,F,h,hp,hx=>by
  rw [List.getElem?_cons_zero] at hp hx
  obtain rfl:=Option.some.inj hp
  obtain rfl:=Option.some.inj hx
  obtain ⟨F1,F2,h1,h2,h3,h4⟩:=h
  exact ⟨F1,F2,h1,⟨bD,F2,λ _ h=>h,h2,λ _ h=>h.elim,λ b=>⟨.inr,λ h=>h.elim (λ h=>h.elim) id⟩⟩,h3,h4⟩
 | p'::ps,x'::xs,i+1,p,x,F,h,hp,hx=>by
  rw [List.getElem?_cons_succ] at hp hx
  obtain ⟨F1,F2,h1,h2,h3,h4⟩:=h
  obtain ⟨G1,G2,g1,⟨K1,K2,k1,k2,k3,k4⟩,g3,g4⟩:=yg h2 hp hx
  refine ⟨G1,λ b=>F1 b\/G2 b,g1,⟨λ b=>F1 b\/K1 b,K2,⟨F1,K1,h1,k1,λ b hb hk=>h3 b hb ((g4 b).2 (.inr ((k4 b).2 (.inl hk)))),λ b=>Iff.rfl⟩,k2,?_,?_⟩,?_,?_⟩
  ·rintro b (hb | hb) hk
   ·exact h3 b hb ((g4 b).2 (.inr ((k4 b).2 (.inr hk))))
   ·exact k3 b hb hk
  ·intro b; show F1 b\/G2 b↔(F1 b\/K1 b)\/K2 b; rw [k4 b,or_assoc]
  ·rintro b hb (hf | hf)
   ·exact h3 b hf ((g4 b).2 (.inl hb))
   ·exact g3 b hb hf
  ·intro b; rw [h4 b,g4 b]; constructor
   ·rintro (h | h | h)
    ·exact .inr (.inl h)
    ·exact .inl h
    ·exact .inr (.inr h)
   ·rintro (h | h | h)
    ·exact .inr (.inl h)
    ·exact .inl h
    ·exact .inr (.inr h)
 | [],[],_,_,_,_,_,hp,_=>by simp at hp
 | [],_::_,_,_,_,_,h,_,_=>h.1.elim
 | _::_,[],_,_,_,_,h,_,_=>h.1.elim
theorem xi:∀ {ps:List κ} {xs:List α} {i:Nat} {p:κ} {x:α} {F:Nat->Prop},i<xs.length->ps.length=xs.length->(sep (H p x) (m4 H ps xs i)).p w F->(gw H (ps.set i p) (xs.set i x)).p w F
 | p'::ps,x'::xs,0,p,x,F,_,_,h=>by
  obtain ⟨F1,F2,h1,⟨K1,K2,k1,k2,k3,k4⟩,h3,h4⟩:=h
  refine ⟨F1,F2,h1,?_,h3,h4⟩
  have e:F2=K2:=funext λ b=>propext ((k4 b).trans ⟨λ h=>h.elim (λ h=>(k1 b h).elim) id,.inr⟩)
  rw [e]; exact k2
 | p'::ps,x'::xs,i+1,p,x,F,hi,hl,h=>by
  obtain ⟨G1,G2,g1,⟨K1,K2,⟨F1,M1,f1,m1,f3,f4⟩,k2,k3,k4⟩,g3,g4⟩:=h
  refine ⟨F1,λ b=>G1 b\/(M1 b\/K2 b),f1,xi (by simpa using hi) (by simpa using hl) ⟨G1,λ b=>M1 b\/K2 b,g1,⟨M1,K2,m1,k2,λ b hb hk=>k3 b ((f4 b).2 (.inr hb)) hk,λ b=>Iff.rfl⟩,?_,λ b=>Iff.rfl⟩,?_,?_⟩
  ·rintro b hb (h | h)
   ·exact g3 b hb ((k4 b).2 (.inl ((f4 b).2 (.inr h))))
   ·exact g3 b hb ((k4 b).2 (.inr h))
  ·rintro b hb (h | h | h)
   ·exact g3 b h ((k4 b).2 (.inl ((f4 b).2 (.inl hb))))
   ·exact f3 b hb h
   ·exact k3 b ((f4 b).2 (.inl hb)) h
  ·intro b; rw [g4 b,k4 b,f4 b]; constructor
   ·rintro (h | (h | h) | h)
    ·exact .inr (.inl h)
    ·exact .inl h
    ·exact .inr (.inr (.inl h))
    ·exact .inr (.inr (.inr h))
   ·rintro (h | h | h | h)
    ·exact .inr (.inl (.inl h))
    ·exact .inl h
    ·exact .inr (.inl (.inr h))
    ·exact .inr (.inr h)
 | [],_::_,_,_,_,_,_,hl,_=>by simp at hl
 | _,[],_,_,_,_,hi,_,_=>by simp at hi
theorem nu {β:Type}:∀ {ps:List β} {i:Nat} {p:β},ps[i]? = some p->ps.set i p=ps
 | [],_,_,h=>by simp at h
 | y::ps,0,p,h=>by rw [List.getElem?_cons_zero] at h; obtain rfl:=Option.some.inj h; rfl
 | y::ps,i+1,p,h=>by rw [List.getElem?_cons_succ] at h; rw [List.set_cons_succ,nu h]
theorem Ji {ps:List κ} {xs:List α} {i:Nat} {p:κ} {x:α} {F:Nat->Prop} (hi:i<xs.length) (hl:ps.length=xs.length) (hp:ps[i]? = some p) (h:(sep (H p x) (m4 H ps xs i)).p w F):(gw H ps (xs.set i x)).p w F:=by
 have:=xi hi hl h; rwa [nu hp] at this
theorem Ci:∀ {ps qs:List κ} {xs ys:List α} {F:Nat->Prop},(sep (gw H ps xs) (gw H qs ys)).p w F->(gw H (ps++qs) (xs++ys)).p w F
 | [],qs,[],ys,F,⟨F1,F2,h1,h2,_,h4⟩=>by
  have:F=F2:=funext λ b=>propext ((h4 b).trans ⟨λ h=>h.elim (λ h=>(h1 b h).elim) id,.inr⟩)
  rw [this]; exact h2
 | p::ps,qs,x::xs,ys,F,⟨F1,F2,⟨G1,G2,g1,g2,g3,g4⟩,h2,h3,h4⟩=>by
  refine ⟨G1,λ b=>G2 b\/F2 b,g1,Ci ⟨G2,F2,g2,h2,λ b hb=>h3 b ((g4 b).2 (.inr hb)),λ b=>Iff.rfl⟩,λ b hb=>?_,λ b=>by rw [h4 b,g4 b,or_assoc]⟩
  rintro (hh | hh)
  ·exact g3 b hb hh
  ·exact h3 b ((g4 b).2 (.inl hb)) hh
 | [],_,_::_,_,_,⟨_,_,h,_⟩=>h.1.elim
 | _::_,_,[],_,_,⟨_,_,h,_⟩=>h.1.elim
theorem St.focus {ps:List κ} {xs:List α} {i:Nat} {p:κ} {x:α} (hs:St w0 A (gw H ps xs::L) w) (hp:ps[i]? = some p) (hx:xs[i]? = some x):St w0 A (H p x::m4 H ps xs i::L) w:=
 (hs.kV (H':=sep (H p x) (m4 H ps xs i)) λ F hF=>⟨F,yg hF hp hx,λ b hb=>.inl hb,gM.refl _ _⟩).split
theorem St.Ls {ps:List κ} {xs:List α} {i:Nat} {p:κ} {x:α} (hs:St w0 A (H p x::m4 H ps xs i::L) w) (hi:i<xs.length) (hl:ps.length=xs.length) (hp:ps[i]? = some p):St w0 A (gw H ps (xs.set i x)::L) w:=
 (St.join hs).kV λ F hF=>⟨F,Ji hi hl hp hF,λ b hb=>.inl hb,gM.refl _ _⟩
theorem zY:∀ {ps:List κ} {xs:List α} {p:κ} {x:α} {F1 F2 F:Nat->Prop},(gw H ps xs).p w F1->(H p x).p w F2->(∀ b,F1 b->¬ F2 b)->(∀ b,F b↔F1 b\/F2 b)->(gw H (ps++[p]) (xs++[x])).p w F
 | [],[],p,x,F1,F2,F,h1,h2,_,h4=>⟨F2,F1,h2,h1,λ b _ VV=>h1 b VV,λ b=>by rw [h4 b]; exact ⟨λ h=>h.symm,λ h=>h.symm⟩⟩
 | s'::ss,x'::xs,p,x,F1,F2,F,h1,h2,h3,h4=>by
  obtain ⟨G1,G2,g1,g2,g3,g4⟩:=h1
  refine ⟨G1,λ b=>G2 b\/F2 b,g1,zY g2 h2 (λ b hb=>h3 b ((g4 b).2 (.inr hb))) (λ b=>Iff.rfl),λ b hb=>?_,λ b=>?_⟩
  ·rintro (hh | hh)
   ·exact g3 b hb hh
   ·exact h3 b ((g4 b).2 (.inl hb)) hh
  ·rw [h4 b,g4 b,or_assoc]
 | [],_::_,_,_,_,_,_,h,_,_,_=>h.1.elim
 | _::_,[],_,_,_,_,_,h,_,_,_=>h.1.elim
theorem St.F0 {ps:List κ} {xs:List α} {p:κ} {x:α} (hs:St w0 A (gw H ps xs::H p x::L) w):St w0 A (gw H (ps++[p]) (xs++[x])::L) w:=by
 refine (St.join hs).kV λ F hF=>?_
 obtain ⟨F1,F2,h1,h2,h3,h4⟩:=hF
 exact ⟨F,zY h1 h2 h3 h4,λ b hb=>.inl hb,gM.refl _ _⟩
theorem St.zZ {ps:List κ} {xs:List α} {i:Nat} {p:κ} {x:α} (hs:St w0 A (H p x::m4 H ps xs i::L) w) (hi:i<xs.length) (hl:ps.length=xs.length):St w0 A (gw H (ps.set i p) (xs.set i x)::L) w:=
 (St.join hs).kV λ F hF=>⟨F,xi hi hl hF,λ b hb=>.inl hb,gM.refl _ _⟩
theorem St.NB {ps:List κ} {xs:List α} {i:Nat} (hs:St w0 A (m4 H ps xs i::L) w):St w0 A (gw H (ps.eraseIdx i) (xs.eraseIdx i)::L) w:=by
 rw [List.eraseIdx_eq_take_drop_succ,List.eraseIdx_eq_take_drop_succ]
 exact hs.kV λ F hF=>⟨F,Ci hF,λ b hb=>.inl hb,gM.refl _ _⟩
theorem St.ag3 {ps:List κ} {xs:List α} {i:Nat} {p:κ} {x:α} {Φ:World->Prop} (hs:St w0 A (gw H ps xs::L) w) (hp:ps[i]? = some p) (hx:xs[i]? = some x) (h:∀ {w F},(H p x).p w F->Φ w):Φ w:=by
 obtain ⟨F,hF,_⟩:=(hs.focus hp hx).head; exact h hF
end
end Go.Fw
namespace Go.Proofs.YtfkgkbhbdffckaaGreatDoor
open Go.Fw
@[ext] structure bP where
 name:ByteArray
 n:Int
 at_:Int
deriving DecidableEq
instance:Flat bP where
 agg:=true
 sz:=3
 enc e:=[.string e.name,.int .i64 e.n,.int .i64 e.at_]
 val e:=.agg [.string e.name,.int .i64 e.n,.int .i64 e.at_].toArray
 pos:=by decide
 len _:=rfl
 one a v h:=by simp at h; rcases h with rfl | rfl | rfl <;> rfl
 mo _ _:=rfl
 mM h:=by cases h
instance:Deep bP bP:=gA
def tj (x:bP):Prop:=(x.name).size<=maxLen/\jL x.n/\jL x.at_
@[ext] structure bL where
 op:Int
 n:Int
 name:ByteArray
 at_:Int
deriving DecidableEq
instance:Flat bL where
 agg:=true
 sz:=4
 enc e:=[.int .i64 e.op,.int .i64 e.n,.string e.name,.int .i64 e.at_]
 val e:=.agg [.int .i64 e.op,.int .i64 e.n,.string e.name,.int .i64 e.at_].toArray
 pos:=by decide
 len _:=rfl
 one a v h:=by simp at h; rcases h with rfl | rfl | rfl | rfl <;> rfl
 mo _ _:=rfl
 mM h:=by cases h
instance:Deep bL bL:=gA
def vQ (x:bL):Prop:=jL x.op/\jL x.n/\(x.name).size<=maxLen/\jL x.at_
structure aX where
 kind:Int
 eB:ByteArray
 name:ByteArray
 e:(List bL)
 f:(List bL)
 n:Int
 body:Int
 eG:Int
 at_:Int
deriving DecidableEq
structure aW where
 kind:Int
 eB:ByteArray
 name:ByteArray
 e:SV
 f:SV
 n:Int
 body:Int
 eG:Int
 at_:Int
instance:Flat aW where
 agg:=true
 sz:=9
 enc e:=[.int .i64 e.kind,.string e.eB,.string e.name,.slice e.e.a e.e.n e.e.cap,.slice e.f.a e.f.n e.f.cap,.int .i64 e.n,.int .i64 e.body,.int .i64 e.eG,.int .i64 e.at_]
 val e:=.agg [.int .i64 e.kind,.string e.eB,.string e.name,.slice e.e.a e.e.n e.e.cap,.slice e.f.a e.f.n e.f.cap,.int .i64 e.n,.int .i64 e.body,.int .i64 e.eG,.int .i64 e.at_].toArray
 pos:=by decide
 len _:=rfl
 one a v h:=by simp at h; rcases h with rfl | rfl | rfl | rfl | rfl | rfl | rfl | rfl | rfl <;> rfl
 mo _ _:=rfl
 mM h:=by cases h
instance:Deep aX aW where
 dr w s x:=∃ (e_:SV) (f_:SV),s=(⟨x.kind,x.eB,x.name,e_,f_,x.n,x.body,x.eG,x.at_⟩:aW)/\DL w (Flat.val e_) x.e/\DL w (Flat.val f_) x.f
 ext h e:=by
  obtain ⟨g0,g1,rfl,h0,h1⟩:=h
  exact ⟨g0,g1,rfl,h0.ext e,h1.ext e⟩
def D0 (x:aX):Prop:=jL x.kind/\(x.eB).size<=maxLen/\(x.name).size<=maxLen/\(∀ y∈x.e,vQ y)/\(∀ y∈x.f,vQ y)/\jL x.n/\jL x.body/\jL x.eG/\jL x.at_
structure bV where
 name:ByteArray
 cW:(List ByteArray)
 body:(List aX)
 at_:Int
deriving DecidableEq
structure bR where
 name:ByteArray
 cW:SV
 body:SV
 at_:Int
instance:Flat bR where
 agg:=true
 sz:=4
 enc e:=[.string e.name,.slice e.cW.a e.cW.n e.cW.cap,.slice e.body.a e.body.n e.body.cap,.int .i64 e.at_]
 val e:=.agg [.string e.name,.slice e.cW.a e.cW.n e.cW.cap,.slice e.body.a e.body.n e.body.cap,.int .i64 e.at_].toArray
 pos:=by decide
 len _:=rfl
 one a v h:=by simp at h; rcases h with rfl | rfl | rfl | rfl <;> rfl
 mo _ _:=rfl
 mM h:=by cases h
instance:Deep bV bR where
 dr w s x:=∃ (ZW:SV) (ZX:SV),s=(⟨x.name,ZW,ZX,x.at_⟩:bR)/\DL w (Flat.val ZW) x.cW/\DL w (Flat.val ZX) x.body
 ext h e:=by
  obtain ⟨g0,g1,rfl,h0,h1⟩:=h
  exact ⟨g0,g1,rfl,h0.ext e,h1.ext e⟩
def tk (x:bV):Prop:=(x.name).size<=maxLen/\(∀ y∈x.cW,(λ y:ByteArray=>y.size<=maxLen) y)/\(∀ y∈x.body,D0 y)/\jL x.at_
structure gO where
 e:(List bL)
 at_:Int
deriving DecidableEq
structure jD where
 e:SV
 at_:Int
instance:Flat jD where
 agg:=true
 sz:=2
 enc e:=[.slice e.e.a e.e.n e.e.cap,.int .i64 e.at_]
 val e:=.agg [.slice e.e.a e.e.n e.e.cap,.int .i64 e.at_].toArray
 pos:=by decide
 len _:=rfl
 one a v h:=by simp at h; rcases h with rfl | rfl <;> rfl
 mo _ _:=rfl
 mM h:=by cases h
instance:Deep gO jD where
 dr w s x:=∃ (e_:SV),s=(⟨e_,x.at_⟩:jD)/\DL w (Flat.val e_) x.e
 ext h e:=by
  obtain ⟨g0,rfl,h0⟩:=h
  exact ⟨g0,rfl,h0.ext e⟩
def z6 (x:gO):Prop:=(∀ y∈x.e,vQ y)/\jL x.at_
structure bQ where
 lines:(List (List bP))
 fr:(List bP)
 dL:(List bP)
 threads:(List bV)
 recover:(List bV)
 dF:(List gO)
deriving DecidableEq
structure bE where
 lines:SV
 fr:SV
 dL:SV
 threads:SV
 recover:SV
 dF:SV
instance:Flat bE where
 agg:=true
 sz:=6
 enc e:=[.slice e.lines.a e.lines.n e.lines.cap,.slice e.fr.a e.fr.n e.fr.cap,.slice e.dL.a e.dL.n e.dL.cap,.slice e.threads.a e.threads.n e.threads.cap,.slice e.recover.a e.recover.n e.recover.cap,.slice e.dF.a e.dF.n e.dF.cap]
 val e:=.agg [.slice e.lines.a e.lines.n e.lines.cap,.slice e.fr.a e.fr.n e.fr.cap,.slice e.dL.a e.dL.n e.dL.cap,.slice e.threads.a e.threads.n e.threads.cap,.slice e.recover.a e.recover.n e.recover.cap,.slice e.dF.a e.dF.n e.dF.cap].toArray
 pos:=by decide
 len _:=rfl
 one a v h:=by simp at h; rcases h with rfl | rfl | rfl | rfl | rfl | rfl <;> rfl
 mo _ _:=rfl
 mM h:=by cases h
instance:Deep bQ bE where
 dr w s x:=∃ (QL:SV) (ZY:SV) (QM:SV) (F3:SV) (F4:SV) (Lt:SV),s=(⟨QL,ZY,QM,F3,F4,Lt⟩:bE)/\DL w (Flat.val QL) x.lines/\DL w (Flat.val ZY) x.fr/\DL w (Flat.val QM) x.dL/\DL w (Flat.val F3) x.threads/\DL w (Flat.val F4) x.recover/\DL w (Flat.val Lt) x.dF
 ext h e:=by
  obtain ⟨g0,g1,g2,g3,g4,g5,rfl,h0,h1,h2,h3,h4,h5⟩:=h
  exact ⟨g0,g1,g2,g3,g4,g5,rfl,h0.ext e,h1.ext e,h2.ext e,h3.ext e,h4.ext e,h5.ext e⟩
def VW (x:bQ):Prop:=(∀ y∈x.lines,(λ ys:(List bP)=>∀ y∈ys,tj y) y)/\(∀ y∈x.fr,tj y)/\(∀ y∈x.dL,tj y)/\(∀ y∈x.threads,tk y)/\(∀ y∈x.recover,tk y)/\(∀ y∈x.dF,z6 y)
@[ext] structure og where
 kind:Int
 n:Int
deriving DecidableEq
instance:Flat og where
 agg:=true
 sz:=2
 enc e:=[.int .i64 e.kind,.int .i64 e.n]
 val e:=.agg [.int .i64 e.kind,.int .i64 e.n].toArray
 pos:=by decide
 len _:=rfl
 one a v h:=by simp at h; rcases h with rfl | rfl <;> rfl
 mo _ _:=rfl
 mM h:=by cases h
instance:Deep og og:=gA
structure ef where
 kind:Int
 t:Int
 i:Int
 cut:(List Int)
deriving DecidableEq
structure dT where
 kind:Int
 t:Int
 i:Int
 cut:SV
instance:Flat dT where
 agg:=true
 sz:=4
 enc e:=[.int .i64 e.kind,.int .i64 e.t,.int .i64 e.i,.slice e.cut.a e.cut.n e.cut.cap]
 val e:=.agg [.int .i64 e.kind,.int .i64 e.t,.int .i64 e.i,.slice e.cut.a e.cut.n e.cut.cap].toArray
 pos:=by decide
 len _:=rfl
 one a v h:=by simp at h; rcases h with rfl | rfl | rfl | rfl <;> rfl
 mo _ _:=rfl
 mM h:=by cases h
instance:Deep ef dT where
 dr w s x:=∃ (ag4:SV),s=(⟨x.kind,x.t,x.i,ag4⟩:dT)/\DL w (Flat.val ag4) x.cut
 ext h e:=by
  obtain ⟨g0,rfl,h0⟩:=h
  exact ⟨g0,rfl,h0.ext e⟩
def Lu (x:ef):Prop:=jL x.kind/\jL x.t/\jL x.i/\(∀ y∈x.cut,jL y)
structure F5 where
 kind:Int
 n:Int
 p:ef
deriving DecidableEq
structure uo where
 kind:Int
 n:Int
 p:dT
instance:Flat uo where
 agg:=true
 sz:=6
 enc e:=[.int .i64 e.kind,.int .i64 e.n,.int .i64 e.p.kind,.int .i64 e.p.t,.int .i64 e.p.i,.slice e.p.cut.a e.p.cut.n e.p.cut.cap]
 val e:=.agg [.int .i64 e.kind,.int .i64 e.n,.int .i64 e.p.kind,.int .i64 e.p.t,.int .i64 e.p.i,.slice e.p.cut.a e.p.cut.n e.p.cut.cap].toArray
 pos:=by decide
 len _:=rfl
 one a v h:=by simp at h; rcases h with rfl | rfl | rfl | rfl | rfl | rfl <;> rfl
 mo _ _:=rfl
 mM h:=by cases h
instance:Deep F5 uo where
 dr w s x:=∃ (p_:dT),s=(⟨x.kind,x.n,p_⟩:uo)/\Deep.dr w p_ x.p
 ext h e:=by
  obtain ⟨g0,rfl,h0⟩:=h
  exact ⟨g0,rfl,Deep.ext h0 e⟩
def ab5 (x:F5):Prop:=jL x.kind/\jL x.n/\Lu x.p
@[ext] structure dC where
 kind:Int
 t:Int
 a:Int
 n:Int
 m:Int
deriving DecidableEq
instance:Flat dC where
 agg:=true
 sz:=5
 enc e:=[.int .i64 e.kind,.int .i64 e.t,.int .i64 e.a,.int .i64 e.n,.int .i64 e.m]
 val e:=.agg [.int .i64 e.kind,.int .i64 e.t,.int .i64 e.a,.int .i64 e.n,.int .i64 e.m].toArray
 pos:=by decide
 len _:=rfl
 one a v h:=by simp at h; rcases h with rfl | rfl | rfl | rfl | rfl <;> rfl
 mo _ _:=rfl
 mM h:=by cases h
instance:Deep dC dC:=gA
@[ext] structure iD where
 bY:Int
 fault:Int
 t:Int
 done:Bool
 stuck:Bool
deriving DecidableEq
instance:Flat iD where
 agg:=true
 sz:=5
 enc e:=[.int .i64 e.bY,.int .i64 e.fault,.int .i64 e.t,.bool e.done,.bool e.stuck]
 val e:=.agg [.int .i64 e.bY,.int .i64 e.fault,.int .i64 e.t,.bool e.done,.bool e.stuck].toArray
 pos:=by decide
 len _:=rfl
 one a v h:=by simp at h; rcases h with rfl | rfl | rfl | rfl | rfl <;> rfl
 mo _ _:=rfl
 mM h:=by cases h
instance:Deep iD iD:=gA
@[ext] structure aV where
 kind:Int
 line:Int
 cell:Int
 n:Int
deriving DecidableEq
instance:Flat aV where
 agg:=true
 sz:=4
 enc e:=[.int .i64 e.kind,.int .i64 e.line,.int .i64 e.cell,.int .i64 e.n]
 val e:=.agg [.int .i64 e.kind,.int .i64 e.line,.int .i64 e.cell,.int .i64 e.n].toArray
 pos:=by decide
 len _:=rfl
 one a v h:=by simp at h; rcases h with rfl | rfl | rfl | rfl <;> rfl
 mo _ _:=rfl
 mM h:=by cases h
instance:Deep aV aV:=gA
@[ext] structure ku where
 kind:Int
 text:ByteArray
 n:Int
 at_:Int
deriving DecidableEq
instance:Flat ku where
 agg:=true
 sz:=4
 enc e:=[.int .i64 e.kind,.string e.text,.int .i64 e.n,.int .i64 e.at_]
 val e:=.agg [.int .i64 e.kind,.string e.text,.int .i64 e.n,.int .i64 e.at_].toArray
 pos:=by decide
 len _:=rfl
 one a v h:=by simp at h; rcases h with rfl | rfl | rfl | rfl <;> rfl
 mo _ _:=rfl
 mM h:=by cases h
instance:Deep ku ku:=gA
@[ext] structure jt where
 cell:Int
 n:Int
deriving DecidableEq
instance:Flat jt where
 agg:=true
 sz:=2
 enc e:=[.int .i64 e.cell,.int .i64 e.n]
 val e:=.agg [.int .i64 e.cell,.int .i64 e.n].toArray
 pos:=by decide
 len _:=rfl
 one a v h:=by simp at h; rcases h with rfl | rfl <;> rfl
 mo _ _:=rfl
 mM h:=by cases h
instance:Deep jt jt:=gA
def II (p:Bool):Int:=if p then 1 else 0
def ZZ (a b:Int):Int:=Bt (a.tdiv b)
def F6 (op a:Int):Int:=if op=3 then Bt (0 - a) else if op=4 then II (decide (a=0)) else 0
def VX (op:Int):Int:=if op=3\/op=4 then 0 else 1
def oS (op a b:Int):Int:=
 if op=5 then Bt (a+b) else if op=6 then Bt (a - b) else if op=7 then Bt (a * b) else if op=8 then ZZ a b else if op=9 then a.tmod b
 else if op=10 then II (decide (a=b)) else if op=11 then II (decide (¬ a=b)) else if op=12 then II (decide (a<b)) else if op=13 then II (decide (a<=b))
 else if op=14 then II (decide (¬ a=0) && decide (¬ b=0)) else if op=15 then II (decide (¬ a=0) || decide (¬ b=0)) else 0
def mO (op b:Int):Int:=if op<5\/15<op then 1 else if (op=8\/op=9)/\b=0 then 12 else 0
def mP (op a b:Int):Int:=if mO op b=0 then oS op a b else 0
theorem C220 (p:Bool) (w:World):CR 220 [.bool p] w (λ v w'=>v = .int .i64 (II p)/\Ext w w'):=by
 have hs:=St.start w;refine tN Tryz.func220 ?_;refine bI (λ QN=>?_) (λ QN=>?_)
 ·rw [QN];exact ⟨rfl,hs.aE⟩
 rw [QN];exact ⟨rfl,hs.aE⟩
theorem C221 (a:Int) (w:World):CR 221 [.int .i64 a] w (λ v w'=>v = .bool (decide (¬ a=0))/\Ext w w'):=by
 have hs:=St.start w;refine tN Tryz.func221 ?_;exact cS ⟨rfl,hs.aE⟩
theorem C192 (op a:Int) (w:World):CR 192 [.int .i64 op,.int .i64 a] w (λ v w'=>v = .tuple #[.int .i64 (F6 op a),.int .i64 (VX op)]/\Ext w w'):=by
 have hs:=St.start w;refine VF _ _ _ _ ?_;unfold S192;refine aI (aC (λ kx=>?_) (λ kx=>aI (aC (λ nO=>?_) (λ nO=>?_))))
 ·refine QF ?_;unfold F6 VX
  first | (rw [if_pos kx,if_pos (.inl kx)]; exact ⟨rfl,hs.aE⟩) | (rw [if_neg kx,if_pos nO,if_pos (.inr nO)]; exact ⟨congrArg (λ p=>Value.tuple #[.int .i64 (II p),.int .i64 0]) (by simp),hs.aE⟩) | (rw [if_neg kx,if_neg nO,if_neg (by omega)]; exact ⟨rfl,hs.aE⟩)
 ·refine bO Fz hs (C221 _ _) (λ _ he hs=>?_)
  first | refine zL ?_ | refine bH ?_
  refine bO Qi hs (C220 _ _) (λ _ he hs=>?_);unfold F6 VX
  first | (rw [if_pos kx,if_pos (.inl kx)]; exact ⟨rfl,hs.aE⟩) | (rw [if_neg kx,if_pos nO,if_pos (.inr nO)]; exact ⟨congrArg (λ p=>Value.tuple #[.int .i64 (II p),.int .i64 0]) (by simp),hs.aE⟩) | (rw [if_neg kx,if_neg nO,if_neg (by omega)]; exact ⟨rfl,hs.aE⟩)
 unfold F6 VX
 first | (rw [if_pos kx,if_pos (.inl kx)]; exact ⟨rfl,hs.aE⟩) | (rw [if_neg kx,if_pos nO,if_pos (.inr nO)]; exact ⟨congrArg (λ p=>Value.tuple #[.int .i64 (II p),.int .i64 0]) (by simp),hs.aE⟩) | (rw [if_neg kx,if_neg nO,if_neg (by omega)]; exact ⟨rfl,hs.aE⟩)
theorem nP:ag1 Tryz.prog 301 16 240:=⟨by kernel_rfl,by kernel_rfl⟩
def ag5 (b1 b2 b3 b4 b5 b6:Nat) (w:World):Prop:=
 Cell w b1 0 (.func (.func 242) #[] #[])/\Cell w b2 0 (.func (.func 243) #[] #[])/\Cell w b3 0 (.func (.func 244) #[] #[])/\Cell w b4 0 (.func (.func 245) #[] #[])/\Cell w b5 0 (.func (.func 246) #[] #[])/\Cell w b6 0 (.func (.func 247) #[] #[])
def opsV (b1 b2 b3 b4 b5 b6:Nat):Value:=
 .agg [.nilFunc,.nilFunc,.nilFunc,.nilFunc,.nilFunc,.func (.func 237) #[] #[],.func (.func 238) #[] #[],.func (.func 239) #[] #[],.func (.func 240) #[] #[],.func (.func 241) #[] #[],
  .func (.func 236) #[] #[.pointer (some ⟨b1,0,none⟩)],.func (.func 236) #[] #[.pointer (some ⟨b2,0,none⟩)],.func (.func 236) #[] #[.pointer (some ⟨b3,0,none⟩)],.func (.func 236) #[] #[.pointer (some ⟨b4,0,none⟩)],
  .func (.func 236) #[] #[.pointer (some ⟨b5,0,none⟩)],.func (.func 236) #[] #[.pointer (some ⟨b6,0,none⟩)]].toArray
def Fb2 (f:Value) (g:Int->Int->Bool):Prop:=∃ g0,f = .func (.func g0) #[] #[]/\Plain Tryz.prog g0/\
 ∀ a b w1,Calls Tryz.prog g0 [.int .i64 a,.int .i64 b].toArray w1 (mW λ v w2=>v = .bool (g a b)/\Ext w1 w2)
theorem C237 (a b:Int) (w:World):CR 237 [.int .i64 a,.int .i64 b] w (λ v w'=>v = .int .i64 (Bt (a+b))/\Ext w w'):=by
 have hs:=St.start w;refine tN Tryz.func237 ?_;exact vP ⟨rfl,hs.aE⟩
theorem C238 (a b:Int) (w:World):CR 238 [.int .i64 a,.int .i64 b] w (λ v w'=>v = .int .i64 (Bt (a - b))/\Ext w w'):=by
 have hs:=St.start w;refine tN Tryz.func238 ?_;exact QE ⟨rfl,hs.aE⟩
theorem C239 (a b:Int) (w:World):CR 239 [.int .i64 a,.int .i64 b] w (λ v w'=>v = .int .i64 (Bt (a * b))/\Ext w w'):=by
 have hs:=St.start w;refine tN Tryz.func239 ?_;exact FU ⟨rfl,hs.aE⟩
theorem C240 (a b:Int) (w:World) (h:b≠0):CR 240 [.int .i64 a,.int .i64 b] w (λ v w'=>v = .int .i64 (ZZ a b)/\Ext w w'):=by
 have hs:=St.start w;refine tN Tryz.func240 ?_;exact QG h ⟨rfl,hs.aE⟩
theorem C241 (a b:Int) (w:World) (h:b≠0):CR 241 [.int .i64 a,.int .i64 b] w (λ v w'=>v = .int .i64 (a.tmod b)/\Ext w w'):=by
 have hs:=St.start w;refine tN Tryz.func241 ?_;exact QH h ⟨rfl,hs.aE⟩
theorem C242 (a b:Int) (w:World):CR 242 [.int .i64 a,.int .i64 b] w (λ v w'=>v = .bool (decide (a=b))/\Ext w w'):=by
 have hs:=St.start w;refine tN Tryz.func242 ?_;exact aI ⟨rfl,hs.aE⟩
theorem C243 (a b:Int) (w:World):CR 243 [.int .i64 a,.int .i64 b] w (λ v w'=>v = .bool (decide (¬ a=b))/\Ext w w'):=by
 have hs:=St.start w;refine tN Tryz.func243 ?_;exact cS ⟨rfl,hs.aE⟩
theorem C244 (a b:Int) (w:World):CR 244 [.int .i64 a,.int .i64 b] w (λ v w'=>v = .bool (decide (a<b))/\Ext w w'):=by
 have hs:=St.start w;refine tN Tryz.func244 ?_;exact aS ⟨rfl,hs.aE⟩
theorem C245 (a b:Int) (w:World):CR 245 [.int .i64 a,.int .i64 b] w (λ v w'=>v = .bool (decide (a<=b))/\Ext w w'):=by
 have hs:=St.start w;refine tN Tryz.func245 ?_;exact ma ⟨rfl,hs.aE⟩
theorem C246 (a b:Int) (w:World):CR 246 [.int .i64 a,.int .i64 b] w (λ v w'=>v = .bool (decide (¬ a=0) && decide (¬ b=0))/\Ext w w'):=by
 have hs:=St.start w;refine tN Tryz.func246 ?_;refine ⟨_,?_,λ _ _ h=>h⟩;refine bO Fz hs (C221 _ _) (λ _ he hs=>aC (λ tQ=>?_) (λ tQ=>?_))
 ·refine bO Fz hs (C221 _ _) (λ _ he hs=>?_);intro yh
  first | (rw [decide_eq_true tQ]; exact ⟨rfl,hs.aE⟩) | (rw [decide_eq_false tQ]; exact ⟨rfl,hs.aE⟩)
 intro yh
 first | (rw [decide_eq_true tQ]; exact ⟨rfl,hs.aE⟩) | (rw [decide_eq_false tQ]; exact ⟨rfl,hs.aE⟩)
theorem C247 (a b:Int) (w:World):CR 247 [.int .i64 a,.int .i64 b] w (λ v w'=>v = .bool (decide (¬ a=0) || decide (¬ b=0))/\Ext w w'):=by
 have hs:=St.start w;refine tN Tryz.func247 ?_;refine ⟨_,?_,λ _ _ h=>h⟩;refine bO Fz hs (C221 _ _) (λ _ he hs=>aC (λ tQ=>?_) (λ tQ=>?_))
 ·intro yh
  first | (rw [decide_eq_true tQ]; exact ⟨rfl,hs.aE⟩) | (rw [decide_eq_false tQ]; exact ⟨rfl,hs.aE⟩)
 refine bO Fz hs (C221 _ _) (λ _ he hs=>?_);intro yh
 first | (rw [decide_eq_true tQ]; exact ⟨rfl,hs.aE⟩) | (rw [decide_eq_false tQ]; exact ⟨rfl,hs.aE⟩)
theorem C235 (g:Nat) (w:World):CR 235 [.func (.func g) #[] #[]] w (λ v w'=>∃ b,v = .func (.func 236) #[] #[.pointer (some ⟨b,0,none⟩)]/\mZ (cP b [.func (.func g) #[] #[]]) w w'):=by
 have hs:=St.start w;refine tN Tryz.func235 ?_;exact jY hs rfl (λ ag6 _ hs=>⟨ag6,rfl,hs.fresh⟩)
theorem C236 (a b:Int) (b2:Nat) (fv:Value) (g:Int->Int->Bool) (w:World) (hc:Cell w b2 0 fv) (hf:Fb2 fv g):CR 236 [.int .i64 a,.int .i64 b,.pointer (some ⟨b2,0,none⟩)] w (λ v w'=>v = .int .i64 (II (g a b))/\Ext w w'):=by
 obtain ⟨g0,rfl,lT,gD⟩:=hf;have hs:=St.start w;refine tN Tryz.func236 ?_;refine bW anu (hc.ext hs.aE) (ft (first:=[]) (cap:=[]) lT (gD a b _) ?_);rintro _ _ ⟨rfl,he⟩;have hs:=hs.ext he;exact bO Qi hs (C220 _ _) (λ _ _ hs=>⟨rfl,hs.aE⟩)
theorem C222 (w:World):CR 222 [] w (λ v w'=>∃ b1 b2 b3 b4 b5 b6,v=opsV b1 b2 b3 b4 b5 b6/\mZ (e9 (ag5 b1 b2 b3 b4 b5 b6)) w w'):=by
 have hs:=St.start w;refine VJ _ _ ?_;unfold S222;refine aN hs Lm (λ b_x0 _ hs=>aN hs Lm (λ b_l1 _ hs=>lh nP (by omega) (by omega) (bF hs rX (fw rfl) (rfl) (λ _ hs=>lh nP (by omega) (by omega) (bF hs rX (fw rfl) (rfl) (λ _ hs=>lh nP (by omega) (by omega) (bF hs rX (fw rfl) (rfl) (λ _ hs=>lh nP (by omega) (by omega) (bF hs rX (fw rfl) (rfl) (λ _ hs=>lh nP (by omega) (by omega) (bF hs rX (fw rfl) (rfl) (λ _ hs=>ft (first:=[]) (cap:=[]) B4 (C235 242 _) ?_))))))))))));rintro _ _ ⟨VY,rfl,cL⟩;have hs:=hs.made cL;refine lh nP (by omega) (by omega) (bF hs.p1 rX (fw rfl) (rfl) (λ _ hs=>ft (first:=[]) (cap:=[]) B4 (C235 243 _) ?_))
 rintro _ _ ⟨Z0,rfl,cL⟩;have hs:=hs.made cL;refine lh nP (by omega) (by omega) (bF hs.p1 rX (fw rfl) (rfl) (λ _ hs=>ft (first:=[]) (cap:=[]) B4 (C235 244 _) ?_));rintro _ _ ⟨Z1,rfl,cL⟩;have hs:=hs.made cL;refine lh nP (by omega) (by omega) (bF hs.p1 rX (fw rfl) (rfl) (λ _ hs=>ft (first:=[]) (cap:=[]) B4 (C235 245 _) ?_));rintro _ _ ⟨Z2,rfl,cL⟩;have hs:=hs.made cL;refine lh nP (by omega) (by omega) (bF hs.p1 rX (fw rfl) (rfl) (λ _ hs=>ft (first:=[]) (cap:=[]) B4 (C235 246 _) ?_));rintro _ _ ⟨Z3,rfl,cL⟩;have hs:=hs.made cL;refine lh nP (by omega) (by omega) (bF hs.p1 rX (fw rfl) (rfl) (λ _ hs=>ft (first:=[]) (cap:=[]) B4 (C235 247 _) ?_))
 rintro _ _ ⟨Z4,rfl,cL⟩;have hs:=hs.made cL;refine lh nP (by omega) (by omega) (bF hs.p1 rX (fw rfl) (rfl) (λ _ hs=>vx Qv hs.hb rfl (zO hs.p7 Qv rfl (by decide) (by simp [fe,eC]) (λ _ hs=>vx Qv hs.hb rfl ?_))));have hs:=(((((((((((((hs.drop)).drop).p1).p2).p3).p4).p5).nD).p1).nD).p2).nD).p3;have hs:=hs.nD.p4.nD.p5.nD.ey.ey.ey.ey.ey;refine ⟨VY,Z0,Z1,Z2,Z3,Z4,rfl,(hs.fC (Ψ:=ag5 VY Z0 Z1 Z2 Z3 Z4) λ w h=>?_).fresh⟩;obtain ⟨⟨⟨⟨⟨h6,h5⟩,h4⟩,h3⟩,h2⟩,h1⟩:=h;exact ⟨h1.cell rfl,h2.cell rfl,h3.cell rfl,h4.cell rfl,h5.cell rfl,h6.cell rfl⟩
theorem fb1:Fb2 (.func (.func 242) #[] #[]) (λ a b=>decide (a=b)):=⟨242,rfl,agN,λ a b w1=>C242 a b w1⟩
theorem fb2:Fb2 (.func (.func 243) #[] #[]) (λ a b=>decide (¬ a=b)):=⟨243,rfl,agO,λ a b w1=>C243 a b w1⟩
theorem fb3:Fb2 (.func (.func 244) #[] #[]) (λ a b=>decide (a<b)):=⟨244,rfl,agP,λ a b w1=>C244 a b w1⟩
theorem fb4:Fb2 (.func (.func 245) #[] #[]) (λ a b=>decide (a<=b)):=⟨245,rfl,agQ,λ a b w1=>C245 a b w1⟩
theorem fb5:Fb2 (.func (.func 246) #[] #[]) (λ a b=>decide (¬ a=0) && decide (¬ b=0)):=⟨246,rfl,agR,λ a b w1=>C246 a b w1⟩
theorem fb6:Fb2 (.func (.func 247) #[] #[]) (λ a b=>decide (¬ a=0) || decide (¬ b=0)):=⟨247,rfl,agS,λ a b w1=>C247 a b w1⟩
theorem C194 (op a b:Int) (w:World):CR 194 [.int .i64 op,.int .i64 a,.int .i64 b] w (λ v w'=>v = .tuple #[.int .i64 (mP op a b),.int .i64 (mO op b)]/\Ext w w'):=by
 have hs:=St.start w;refine VG _ _ _ _ _ ?_;unfold S194;refine ⟨_,?_,λ _ _ h=>h⟩;refine aS (aC (λ jl=>?_) (λ jl=>?_))
 ·intro yh;refine gk ?_
  first | exact ⟨rfl,hs.aE⟩ | (subst_vars; exact ⟨rfl,hs.aE⟩) | (refine ⟨?_,hs.aE⟩; unfold mP mO oS; first | (rw [if_pos (show op<5\/15<op by omega)]; rfl) | simp [*])
 refine dO ?_;intro yh;refine aC (λ je=>?_) (λ je=>?_)
 ·first | exact ⟨rfl,hs.aE⟩ | (subst_vars; exact ⟨rfl,hs.aE⟩) | (refine ⟨?_,hs.aE⟩; unfold mP mO oS; first | (rw [if_pos (show op<5\/15<op by omega)]; rfl) | simp [*])
 refine eW agG (C222 _) ?_;rintro _ _ ⟨b1,b2,b3,b4,b5,b6,rfl,cL⟩;have hs:=hs.made cL;obtain rfl | rfl | rfl | rfl | rfl | rfl | rfl | rfl | rfl | rfl | rfl | rfl | rfl | rfl | rfl | rfl:op=0\/op=1\/op=2\/op=3\/op=4\/op=5\/op=6\/op=7\/op=8\/op=9\/op=10\/op=11\/op=12\/op=13\/op=14\/op=15:=by omega
 ·refine pop (v:=.nilFunc) (by kernel_rfl) (pop (v:=.bool true) (by kernel_rfl) (gk ?_))
  first | exact ⟨rfl,hs.aE⟩ | (subst_vars; exact ⟨rfl,hs.aE⟩) | (refine ⟨?_,hs.aE⟩; unfold mP mO oS; first | (rw [if_pos (show op<5\/15<op by omega)]; rfl) | simp [*])
 ·refine pop (v:=.nilFunc) (by kernel_rfl) (pop (v:=.bool true) (by kernel_rfl) (gk ?_))
  first | exact ⟨rfl,hs.aE⟩ | (subst_vars; exact ⟨rfl,hs.aE⟩) | (refine ⟨?_,hs.aE⟩; unfold mP mO oS; first | (rw [if_pos (show op<5\/15<op by omega)]; rfl) | simp [*])
 ·refine pop (v:=.nilFunc) (by kernel_rfl) (pop (v:=.bool true) (by kernel_rfl) (gk ?_))
  first | exact ⟨rfl,hs.aE⟩ | (subst_vars; exact ⟨rfl,hs.aE⟩) | (refine ⟨?_,hs.aE⟩; unfold mP mO oS; first | (rw [if_pos (show op<5\/15<op by omega)]; rfl) | simp [*])
 ·refine pop (v:=.nilFunc) (by kernel_rfl) (pop (v:=.bool true) (by kernel_rfl) (gk ?_))
  first | exact ⟨rfl,hs.aE⟩ | (subst_vars; exact ⟨rfl,hs.aE⟩) | (refine ⟨?_,hs.aE⟩; unfold mP mO oS; first | (rw [if_pos (show op<5\/15<op by omega)]; rfl) | simp [*])
 ·refine pop (v:=.nilFunc) (by kernel_rfl) (pop (v:=.bool true) (by kernel_rfl) (gk ?_))
  first | exact ⟨rfl,hs.aE⟩ | (subst_vars; exact ⟨rfl,hs.aE⟩) | (refine ⟨?_,hs.aE⟩; unfold mP mO oS; first | (rw [if_pos (show op<5\/15<op by omega)]; rfl) | simp [*])
 ·refine pop (v:=.func (.func 237) #[] #[]) (by kernel_rfl) (pop (v:=.bool false) (by kernel_rfl) (eu ?_));refine ⟨_,?_,λ _ _ h=>h⟩;refine aI (fB (by decide) (aI (fB (by decide) ?_)));intro yi;refine eu (ft (first:=[]) (cap:=[]) agI (C237 a b _) ?_);rintro _ w4 ⟨rfl,he⟩;have hs:=hs.ext he
  first | exact ⟨rfl,hs.aE⟩ | (subst_vars; exact ⟨rfl,hs.aE⟩) | (refine ⟨?_,hs.aE⟩; unfold mP mO oS; first | (rw [if_pos (show op<5\/15<op by omega)]; rfl) | simp [*])
 ·refine pop (v:=.func (.func 238) #[] #[]) (by kernel_rfl) (pop (v:=.bool false) (by kernel_rfl) (eu ?_));refine ⟨_,?_,λ _ _ h=>h⟩;refine aI (fB (by decide) (aI (fB (by decide) ?_)));intro yi;refine eu (ft (first:=[]) (cap:=[]) agJ (C238 a b _) ?_);rintro _ w4 ⟨rfl,he⟩;have hs:=hs.ext he
  first | exact ⟨rfl,hs.aE⟩ | (subst_vars; exact ⟨rfl,hs.aE⟩) | (refine ⟨?_,hs.aE⟩; unfold mP mO oS; first | (rw [if_pos (show op<5\/15<op by omega)]; rfl) | simp [*])
 ·refine pop (v:=.func (.func 239) #[] #[]) (by kernel_rfl) (pop (v:=.bool false) (by kernel_rfl) (eu ?_));refine ⟨_,?_,λ _ _ h=>h⟩;refine aI (fB (by decide) (aI (fB (by decide) ?_)));intro yi;refine eu (ft (first:=[]) (cap:=[]) agK (C239 a b _) ?_);rintro _ w4 ⟨rfl,he⟩;have hs:=hs.ext he
  first | exact ⟨rfl,hs.aE⟩ | (subst_vars; exact ⟨rfl,hs.aE⟩) | (refine ⟨?_,hs.aE⟩; unfold mP mO oS; first | (rw [if_pos (show op<5\/15<op by omega)]; rfl) | simp [*])
 ·refine pop (v:=.func (.func 240) #[] #[]) (by kernel_rfl) (pop (v:=.bool false) (by kernel_rfl) (eu ?_));refine ⟨_,?_,λ _ _ h=>h⟩;refine aI (oB (by decide) (aI ?_));intro yi;refine aC (λ sf=>?_) (λ sf=>?_)
  ·first | exact ⟨rfl,hs.aE⟩ | (subst_vars; exact ⟨rfl,hs.aE⟩) | (refine ⟨?_,hs.aE⟩; unfold mP mO oS; first | (rw [if_pos (show op<5\/15<op by omega)]; rfl) | simp [*])
  refine ft (first:=[]) (cap:=[]) agL (C240 a b _ sf) ?_;rintro _ w4 ⟨rfl,he⟩;have hs:=hs.ext he
  first | exact ⟨rfl,hs.aE⟩ | (subst_vars; exact ⟨rfl,hs.aE⟩) | (refine ⟨?_,hs.aE⟩; unfold mP mO oS; first | (rw [if_pos (show op<5\/15<op by omega)]; rfl) | simp [*])
 ·refine pop (v:=.func (.func 241) #[] #[]) (by kernel_rfl) (pop (v:=.bool false) (by kernel_rfl) (eu ?_));refine ⟨_,?_,λ _ _ h=>h⟩;refine aI (fB (by decide) (aI (oB (by decide) (aI ?_))));intro yi;refine aC (λ sf=>?_) (λ sf=>?_)
  ·first | exact ⟨rfl,hs.aE⟩ | (subst_vars; exact ⟨rfl,hs.aE⟩) | (refine ⟨?_,hs.aE⟩; unfold mP mO oS; first | (rw [if_pos (show op<5\/15<op by omega)]; rfl) | simp [*])
  refine ft (first:=[]) (cap:=[]) agM (C241 a b _ sf) ?_;rintro _ w4 ⟨rfl,he⟩;have hs:=hs.ext he
  first | exact ⟨rfl,hs.aE⟩ | (subst_vars; exact ⟨rfl,hs.aE⟩) | (refine ⟨?_,hs.aE⟩; unfold mP mO oS; first | (rw [if_pos (show op<5\/15<op by omega)]; rfl) | simp [*])
 ·refine pop (v:=.func (.func 236) #[] #[.pointer (some ⟨b1,0,none⟩)]) (by kernel_rfl) (pop (v:=.bool false) (by kernel_rfl) (eu ?_));refine ⟨_,?_,λ _ _ h=>h⟩;refine aI (fB (by decide) (aI (fB (by decide) ?_)));intro yi;refine eu ?_;obtain ⟨o1,o2,o3,o4,o5,o6⟩:=hs.e9;refine ft (first:=[]) (cap:=[.pointer (some ⟨b1,0,none⟩)]) B5 (C236 a b b1 _ _ _ o1 fb1) ?_;rintro _ w4 ⟨rfl,he⟩;have hs:=hs.ext he
  first | exact ⟨rfl,hs.aE⟩ | (subst_vars; exact ⟨rfl,hs.aE⟩) | (refine ⟨?_,hs.aE⟩; unfold mP mO oS; first | (rw [if_pos (show op<5\/15<op by omega)]; rfl) | simp [*])
 ·refine pop (v:=.func (.func 236) #[] #[.pointer (some ⟨b2,0,none⟩)]) (by kernel_rfl) (pop (v:=.bool false) (by kernel_rfl) (eu ?_));refine ⟨_,?_,λ _ _ h=>h⟩;refine aI (fB (by decide) (aI (fB (by decide) ?_)));intro yi;refine eu ?_;obtain ⟨o1,o2,o3,o4,o5,o6⟩:=hs.e9;refine ft (first:=[]) (cap:=[.pointer (some ⟨b2,0,none⟩)]) B5 (C236 a b b2 _ _ _ o2 fb2) ?_;rintro _ w4 ⟨rfl,he⟩;have hs:=hs.ext he
  first | exact ⟨rfl,hs.aE⟩ | (subst_vars; exact ⟨rfl,hs.aE⟩) | (refine ⟨?_,hs.aE⟩; unfold mP mO oS; first | (rw [if_pos (show op<5\/15<op by omega)]; rfl) | simp [*])
 ·refine pop (v:=.func (.func 236) #[] #[.pointer (some ⟨b3,0,none⟩)]) (by kernel_rfl) (pop (v:=.bool false) (by kernel_rfl) (eu ?_));refine ⟨_,?_,λ _ _ h=>h⟩;refine aI (fB (by decide) (aI (fB (by decide) ?_)));intro yi;refine eu ?_;obtain ⟨o1,o2,o3,o4,o5,o6⟩:=hs.e9;refine ft (first:=[]) (cap:=[.pointer (some ⟨b3,0,none⟩)]) B5 (C236 a b b3 _ _ _ o3 fb3) ?_;rintro _ w4 ⟨rfl,he⟩;have hs:=hs.ext he
  first | exact ⟨rfl,hs.aE⟩ | (subst_vars; exact ⟨rfl,hs.aE⟩) | (refine ⟨?_,hs.aE⟩; unfold mP mO oS; first | (rw [if_pos (show op<5\/15<op by omega)]; rfl) | simp [*])
 ·refine pop (v:=.func (.func 236) #[] #[.pointer (some ⟨b4,0,none⟩)]) (by kernel_rfl) (pop (v:=.bool false) (by kernel_rfl) (eu ?_));refine ⟨_,?_,λ _ _ h=>h⟩;refine aI (fB (by decide) (aI (fB (by decide) ?_)));intro yi;refine eu ?_;obtain ⟨o1,o2,o3,o4,o5,o6⟩:=hs.e9;refine ft (first:=[]) (cap:=[.pointer (some ⟨b4,0,none⟩)]) B5 (C236 a b b4 _ _ _ o4 fb4) ?_;rintro _ w4 ⟨rfl,he⟩;have hs:=hs.ext he
  first | exact ⟨rfl,hs.aE⟩ | (subst_vars; exact ⟨rfl,hs.aE⟩) | (refine ⟨?_,hs.aE⟩; unfold mP mO oS; first | (rw [if_pos (show op<5\/15<op by omega)]; rfl) | simp [*])
 ·refine pop (v:=.func (.func 236) #[] #[.pointer (some ⟨b5,0,none⟩)]) (by kernel_rfl) (pop (v:=.bool false) (by kernel_rfl) (eu ?_));refine ⟨_,?_,λ _ _ h=>h⟩;refine aI (fB (by decide) (aI (fB (by decide) ?_)));intro yi;refine eu ?_;obtain ⟨o1,o2,o3,o4,o5,o6⟩:=hs.e9;refine ft (first:=[]) (cap:=[.pointer (some ⟨b5,0,none⟩)]) B5 (C236 a b b5 _ _ _ o5 fb5) ?_;rintro _ w4 ⟨rfl,he⟩;have hs:=hs.ext he
  first | exact ⟨rfl,hs.aE⟩ | (subst_vars; exact ⟨rfl,hs.aE⟩) | (refine ⟨?_,hs.aE⟩; unfold mP mO oS; first | (rw [if_pos (show op<5\/15<op by omega)]; rfl) | simp [*])
 refine pop (v:=.func (.func 236) #[] #[.pointer (some ⟨b6,0,none⟩)]) (by kernel_rfl) (pop (v:=.bool false) (by kernel_rfl) (eu ?_));refine ⟨_,?_,λ _ _ h=>h⟩;refine aI (fB (by decide) (aI (fB (by decide) ?_)));intro yi;refine eu ?_;obtain ⟨o1,o2,o3,o4,o5,o6⟩:=hs.e9;refine ft (first:=[]) (cap:=[.pointer (some ⟨b6,0,none⟩)]) B5 (C236 a b b6 _ _ _ o6 fb6) ?_;rintro _ w4 ⟨rfl,he⟩;have hs:=hs.ext he
 first | exact ⟨rfl,hs.aE⟩ | (subst_vars; exact ⟨rfl,hs.aE⟩) | (refine ⟨?_,hs.aE⟩; unfold mP mO oS; first | (rw [if_pos (show op<5\/15<op by omega)]; rfl) | simp [*])
theorem fY {α:Type} {l:List α} {k:Nat} {e:α} (h:l[k]? = some e):l.take k++[e]=l.take (k+1):=by rw [List.take_add_one,h]; rfl
theorem fi {α:Type} {φ:α->Prop} {l:List α} {k:Nat} {e:α} (h:∀ y∈l.take k,φ y) (he:l[k]? = some e) (hp:φ e):∀ y∈l.take (k+1),φ y:=by
 intro y hy
 rw [<- fY he] at hy
 rcases List.mem_append.1 hy with hy | hy
 ·exact h y hy
 rw [List.mem_singleton.1 hy]; exact hp
theorem uO {α:Type} {g:α->Bool} {l:List α} {k:Nat} {e:α} (he:l[k]? = some e) (hg:g e=true):l.any g=true:=List.any_eq_true.2 ⟨e,List.mem_of_getElem? he,hg⟩
theorem xj {α:Type} {g:α->Bool} {l:List α} (h:∀ y∈l,g y=false):l.any g=false:=by
 rw [List.any_eq_false]; intro y hy; rw [h y hy]; simp
def pE {α:Type} (g:α->Bool) (l:List α):Int:=match l.findIdx? g with | some k=>k | none=>-1
theorem jE {α:Type} {g:α->Bool} {l:List α} {k:Nat} {e:α} (eA:∀ y∈l.take k,g y=false) (he:l[k]? = some e) (hg:g e=true):pE g l=k:=by
 have:l.findIdx? g=some k:=by
  rw [List.findIdx?_eq_some_iff_getElem]
  have hk:=(List.getElem?_eq_some_iff.1 he).1
  refine ⟨hk,by rw [(List.getElem?_eq_some_iff.1 he).2]; exact hg,λ j hj=>?_⟩
  have:=eA (l[j]'(by omega)) (List.mem_take_iff_getElem.2 ⟨j,by omega,rfl⟩)
  simp [this]
 unfold pE; rw [this]
theorem gB {α:Type} {g:α->Bool} {l:List α} (eA:∀ y∈l,g y=false):pE g l = -1:=by
 have:l.findIdx? g=none:=by rw [List.findIdx?_eq_none_iff]; exact eA
 unfold pE; rw [this]
theorem iK {α:Type} (g:α->Bool) (l:List α):decide (0<=pE g l)=l.any g:=by
 unfold pE
 cases h:l.findIdx? g with
 | none=>
  rw [List.findIdx?_eq_none_iff] at h
  have:l.any g=false:=by rw [List.any_eq_false]; intro x hx; rw [h x hx]; simp
  rw [this]; rfl
 | some k=>
  have h':=(List.findIdx?_eq_some_iff_getElem.1 h)
  obtain ⟨hk,hg,_⟩:=h'
  have:l.any g=true:=List.any_eq_true.2 ⟨_,List.getElem_mem hk,hg⟩
  rw [this]; simp
def rC {α:Type} [Flat α] (w:World) (f:Value) (g:α->Bool):Prop:=∃ g0 first cap,f = .func (.func g0) (List.toArray first) (List.toArray cap)/\Plain Tryz.prog g0/\
 ∀ x w1,Ext w w1->Calls Tryz.prog g0 (first++[Flat.val x]++cap).toArray w1 (mW λ v w2=>v = .bool (g x)/\Ext w1 w2)
theorem rC.ext {α:Type} [Flat α] {w w':World} {f:Value} {g:α->Bool} (h:rC w f g) (e:Ext w w'):rC w' f g:=by
 obtain ⟨g0,first,cap,h1,h2,h3⟩:=h; exact ⟨g0,first,cap,h1,h2,λ x w1 e1=>h3 x w1 (e.trans e1)⟩
def eO (k:Int):Int:=if k=3\/k=4 then 1 else if 5<=k/\k<=15 then 2 else 0
def Z5 (st:Option (Int × Int)) (x:og):Option (Int × Int):=match st with
 | none=>none
 | some (n,h)=>if n - eO x.kind<0 then none else some (n - eO x.kind+1,max h (n - eO x.kind+1))
def ht (l:List og):Option (Int × Int):=l.foldl Z5 (some (0,0))
def htN (l:List og):Int:=match ht l with | some p=>p.1 | none=>0
def htH (l:List og):Int:=match ht l with | some p=>p.2 | none=>0
theorem vR {l:List og} {k:Nat} {x:og} (h:l[k]? = some x):ht (l.take (k+1))=Z5 (ht (l.take k)) x:=by
 unfold ht; rw [<- fY h,List.foldl_append]; rfl
theorem Lv {l:List og} {k:Nat} (h:ht (l.take k)=none):ht l=none:=by
 have key:∀ m:List og,m.foldl Z5 none=none:=λ m=>by induction m with | nil=>rfl | cons y m ih=>exact ih
 have e:l=l.take k++l.drop k:=(List.take_append_drop k l).symm
 unfold ht at *
 rw [e,List.foldl_append,h]; exact key _
theorem Lw (k:Int):0<=eO k/\eO k<=2:=by
 unfold eO
 repeat' split
 all_goals omega
theorem ab7 {l:List og}:∀ k n h,k<=l.length->ht (l.take k)=some (n,h)->0<=n/\n<=(k:Int)/\0<=h/\h<=(k:Int)
 | 0,n,h,_,e=>by
  have:ht ([]:List og)=some (0,0):=rfl
  rw [List.take_zero,this] at e
  obtain ⟨rfl,rfl⟩:=Prod.mk.inj (Option.some.inj e); omega
 | k+1,n,h,hk,e=>by
  obtain ⟨x,hx⟩:∃ x,l[k]? = some x:=⟨_,List.getElem?_eq_getElem (by omega)⟩
  rw [vR hx] at e
  cases hp:ht (l.take k) with
  | none=>rw [hp] at e; cases e
  | some p=>
   obtain ⟨a,b⟩:=p
   have ih:=ab7 k a b (by omega) hp
   have hw:=Lw x.kind
   rw [hp] at e
   unfold Z5 at e
   simp only [] at e
   split at e
   ·cases e
   ·obtain ⟨rfl,rfl⟩:=Prod.mk.inj (Option.some.inj e); omega
theorem VZ {l:List og} {k:Nat} {x:og} {n h m:Int} (hx:l[k]? = some x) (F7:ht (l.take k)=some (n,h)) (hm:m=n - eO x.kind) (h0:¬ m<0):ht (l.take (k+1))=some (m+1,max h (m+1)):=by
 rw [vR hx,F7]; unfold Z5; simp only []; rw [<- hm,if_neg h0]
theorem ab8 {l:List og} {k:Nat} {x:og} {n h m:Int} (hx:l[k]? = some x) (F7:ht (l.take k)=some (n,h)) (hm:m=n - eO x.kind) (h0:m<0):ht (l.take (k+1))=none:=by
 rw [vR hx,F7]; unfold Z5; simp only []; rw [<- hm,if_pos h0]
def pF (many:Int) (x:og):Bool:=decide ((x.kind=1/\(x.n<0\/4294967296<x.n))\/(x.kind=2/\(x.n<0\/many<=x.n))\/(¬ x.kind=1/\¬ x.kind=2/\(¬ x.n=0\/x.kind<1\/16<=x.kind)))
def lj (l:List og) (many:Int):Bool:=decide (l.length<=40) && (ht l).isSome && decide (htN l=1) && !l.any (pF many)
theorem C190 (k:Int) (w:World):CR 190 [.int .i64 k] w (λ v w'=>v = .int .i64 (eO k)/\Ext w w'):=by
 have hs:=St.start w;refine tN Tryz.func190 ?_;refine ⟨λ jv w'=>jv = .bool (decide (k=3\/k=4))/\w=w',aI (aC (λ _=>⟨Qe (by omega),rfl⟩) (λ _=>aI ⟨I5 (by omega),rfl⟩)),?_⟩;rintro _ _ ⟨rfl,hw⟩ _;subst hw;refine aC (λ vS=>?_) (λ vS=>⟨λ jv w'=>jv = .bool (decide (5<=k/\k<=15))/\w=w',dO (aC (λ _=>ma ⟨I5 (by omega),rfl⟩) (λ _=>⟨jvF (by omega),rfl⟩)),?_⟩)
 ·unfold eO
  first | (rw [if_pos vS]; exact ⟨rfl,hs.aE⟩) | (rw [if_neg vS,if_pos jl]; exact ⟨rfl,hs.aE⟩) | (rw [if_neg vS,if_neg jl]; exact ⟨rfl,hs.aE⟩)
 rintro _ _ ⟨rfl,hw⟩ _;subst hw;refine aC (λ jl=>?_) (λ jl=>?_)
 ·unfold eO
  first | (rw [if_pos vS]; exact ⟨rfl,hs.aE⟩) | (rw [if_neg vS,if_pos jl]; exact ⟨rfl,hs.aE⟩) | (rw [if_neg vS,if_neg jl]; exact ⟨rfl,hs.aE⟩)
 unfold eO
 first | (rw [if_pos vS]; exact ⟨rfl,hs.aE⟩) | (rw [if_neg vS,if_pos jl]; exact ⟨rfl,hs.aE⟩) | (rw [if_neg vS,if_neg jl]; exact ⟨rfl,hs.aE⟩)
theorem C217 (sv:Value) (xs:List og) (w:World) (hL:dx (λ _=>True) w sv xs) (hn:xs.length<=1048576):CR 217 [sv] w (λ v w'=>v = .tuple #[.int .i64 (htN xs),.int .i64 (htH xs),.bool (ht xs).isSome]/\Ext w w'):=by
 have hs:=St.start w;refine tN Tryz.func217 ?_;refine aG ui (hL.ext hs.aE) ?_;refine ⟨λ m y z x w1=>∃ (k:Nat) (n h:Int),y = .int .i64 n/\z = .int .i64 h/\x = .int .i64 (k:Int)/\m=xs.length - k/\k<=xs.length/\ht (xs.take k)=some (n,h)/\St w bD [] w1,⟨_,0,0,0,rfl,rfl,rfl,rfl,by omega,rfl,hs⟩,?_⟩;rintro m _ _ _ w1 ⟨k,n,h,rfl,rfl,rfl,rfl,hk,F7,hs⟩ _;refine aS (aC (λ nO=>?_) (λ nO=>?_))
 ·obtain ⟨rh,xk⟩:=gx (xs) (i:=((k:Int)).toNat) (by omega);refine aU ui (hL.ext hs.aE) (by omega) xk (λ _ QO=>aF zT (QO) (aN hs DO (λ ag8 _ hs=>aO (x:=rh) hs zT rfl rfl (λ _ hs=>aA jZ (aB cK hs.hb rfl (bO Qh hs (C190 _ _) (λ _ he hs=>?_)))))));have hw:=Lw rh.kind;have hhb:=ab7 k n h (by omega) F7;refine iT (by omega) (aS (aC (λ sf=>?_) (λ sf=>aT (by omega) (DU (aT (by omega) ⟨_,by omega,k+1,_,_,rfl,rfl,rfl,rfl,by omega,by rw [vR (k:=k) xk,F7]; unfold Z5; simp only []; rw [if_neg sf],hs.drop⟩)))));have hz:ht xs=none:=Lv (k:=k+1) (by rw [vR (k:=k) xk,F7]; unfold Z5; simp only []; rw [if_pos sf])
  unfold htN htH;rw [hz];exact ⟨rfl,hs.aE⟩
 rw [List.take_of_length_le (by omega)] at F7;unfold htN htH;rw [F7];exact ⟨rfl,hs.aE⟩
theorem C216 (x:og) (b2:Nat) (many:Int) (w:World) (hc:Cell w b2 0 (.int .i64 many)):CR 216 [Flat.val x,.pointer (some ⟨b2,0,none⟩)] w (λ v w'=>v = .bool (pF many x)/\Ext w w'):=by
 have hs:=St.start w;refine tN Tryz.func216 ?_;refine cZ hs (λ Jj _ hs=>aA jZ (aB cK hs.hb rfl (aI (aC (λ BF=>⟨_,aA mz (aB cK hs.hb rfl (aS (aC (λ jl=>?_) (λ jl=>?_)))),λ _ _ h=>h⟩) (λ BF=>aA jZ (aB cK hs.hb rfl (aI (aC (λ nQ=>⟨_,aA mz (aB cK hs.hb rfl (aS (aC (λ pG=>?_) (λ pG=>?_)))),λ _ _ h=>h⟩) (λ nQ=>?_)))))))))
 ·intro yh;refine ⟨vb ?_,hs.aE⟩;unfold pF
  first | exact (decide_eq_true (by omega)).symm | exact (decide_eq_false (by omega)).symm | exact decide_eq_decide.2 (by omega)
 ·refine aA mz (aB cK hs.hb rfl (er ?_));intro yh;refine ⟨vb ?_,hs.aE⟩;unfold pF
  first | exact (decide_eq_true (by omega)).symm | exact (decide_eq_false (by omega)).symm | exact decide_eq_decide.2 (by omega)
 ·intro yi;refine ⟨vb ?_,hs.aE⟩;unfold pF
  first | exact (decide_eq_true (by omega)).symm | exact (decide_eq_false (by omega)).symm | exact decide_eq_decide.2 (by omega)
 ·refine aA mz (aB cK hs.hb rfl (bW cK (hc.ext hs.aE) (dO ?_)));intro yi;refine ⟨vb ?_,hs.aE⟩;unfold pF
  first | exact (decide_eq_true (by omega)).symm | exact (decide_eq_false (by omega)).symm | exact decide_eq_decide.2 (by omega)
 refine ⟨_,?_,λ _ _ h=>h⟩;refine aA mz (aB cK hs.hb rfl (cS (aC (λ Cj=>?_) (λ Cj=>aA jZ (aB cK hs.hb rfl (aS (aC (λ QP=>?_) (λ QP=>?_))))))))
 ·intro Pp;refine ⟨vb ?_,hs.aE⟩;unfold pF
  first | exact (decide_eq_true (by omega)).symm | exact (decide_eq_false (by omega)).symm | exact decide_eq_decide.2 (by omega)
 ·intro Pp;refine ⟨vb ?_,hs.aE⟩;unfold pF
  first | exact (decide_eq_true (by omega)).symm | exact (decide_eq_false (by omega)).symm | exact decide_eq_decide.2 (by omega)
 refine aA jZ (aB cK hs.hb rfl (dO ?_));intro Pp;refine ⟨vb ?_,hs.aE⟩;unfold pF
 first | exact (decide_eq_true (by omega)).symm | exact (decide_eq_false (by omega)).symm | exact decide_eq_decide.2 (by omega)
theorem C234 (sv fv:Value) (xs:List og) (g:og->Bool) (w:World) (hL:dx (λ _=>True) w sv xs) (hf:rC w fv g) (hn:xs.length<=1073741824):CR 234 [sv,fv] w (λ v w'=>v = .int .i64 (pE g xs)/\Ext w w'):=by
 obtain ⟨g0,first,cap,rfl,lT,gD⟩:=hf;have hs:=St.start w;refine tN Tryz.func234 ?_;refine aG ui (hL.ext hs.aE) ?_;refine ⟨λ m x w1=>∃ k:Nat,x = .int .i64 (k:Int)/\m=xs.length - k/\k<=xs.length/\(∀ y∈xs.take k,g y=false)/\St w bD [] w1,⟨_,0,rfl,rfl,Nat.zero_le _,by simp,hs⟩,?_⟩;rintro m _ w1 ⟨k,rfl,rfl,hk,eA,hs⟩ _;refine aS (aC (λ qA=>?_) (λ _=>⟨congrArg (Value.int .i64) (gB (by rw [List.take_of_length_le (by omega)] at eA; exact eA)).symm,hs.aE⟩));obtain ⟨jM,dG⟩:=gx (xs) (i:=((k:Int)).toNat) (by omega);refine aU ui (hL.ext hs.aE) (by omega) dG (λ _ gS=>aF zT (gS) (ft lT (gD jM w1 hs.aE) ?_))
 rintro _ _ ⟨rfl,he⟩;have hs:=hs.ext he;exact bI (λ dJ=>⟨congrArg (Value.int .i64) (jE eA dG dJ).symm,hs.aE⟩) (λ dJ=>aT (by omega) ⟨xs.length - (k+1),by omega,k+1,rfl,rfl,by omega,fi eA dG dJ,hs⟩)
theorem C218 (sv fv:Value) (xs:List og) (g:og->Bool) (w:World) (hL:dx (λ _=>True) w sv xs) (hf:rC w fv g) (hn:xs.length<=1073741824):CR 218 [sv,fv] w (λ v w'=>v = .bool (xs.any g)/\Ext w w'):=by
 have hs:=St.start w;refine tN Tryz.func218 ?_;exact bO agH hs (C234 _ _ _ _ _ (hL.ext hs.aE) (hf.ext hs.aE) (by omega)) (λ _ _ hs=>dO ⟨vb (iK _ _),hs.aE⟩)
theorem C189 (sv:Value) (xs:List og) (many:Int) (w:World) (hL:dx (λ _=>True) w sv xs) (hn:xs.length<=1048576):CR 189 [sv,.int .i64 many] w (λ v w'=>v = .bool (lj xs many)/\Ext w w'):=by
 have hs:=St.start w;refine tN Tryz.func189 ?_;refine jY hs rfl (λ Lx w1 hs=>bO agD hs (C217 _ _ _ (hL.ext hs.aE) (by omega)) (λ _ he hs=>aR rfl (aR rfl (aR rfl ?_))));refine ⟨_,?_,λ _ _ h=>h⟩;refine aG ui (hL.ext hs.aE) (ma (aC (λ z7=>bI (λ j8=>aI (aC (λ vT=>?_) (λ vT=>?_))) (λ j8=>?_)) (λ z7=>?_)))
 ·have hfn:rC _ (.func (.func 216) [].toArray [.pointer (some ⟨Lx,0,none⟩)].toArray) (pF many):=
   ⟨216,[],_,rfl,agC,λ y w1 e1=>C216 y Lx many w1 ((hs.hb.cell rfl).ext e1)⟩
  refine bO agE hs (C218 _ _ _ _ _ (hL.ext hs.aE) hfn (by omega)) (λ _ he hs=>bH ?_);intro yh;refine ⟨vb ?_,hs.aE⟩;unfold lj
  simp_all <;> omega
 ·intro yh;refine ⟨vb ?_,hs.aE⟩;unfold lj
  simp_all <;> omega
 ·intro yh;refine ⟨vb ?_,hs.aE⟩;unfold lj
  simp_all <;> omega
 intro yh;refine ⟨vb ?_,hs.aE⟩;unfold lj
 simp_all <;> omega
def lr (b:Nat) (rest:List Value) (l:List Int):HP:=yJ λ sv=>sep (cP b (sv::rest)) (bJ sv l)
theorem lr.shut {w0 w:World} {A:Nat->Prop} {R:List HP} {b:Nat} {rest:List Value} {sv:Value} {l:List Int} (hs:St w0 A (cP b (sv::rest)::bJ sv l::R) w):St w0 A (lr b rest l::R) w:=
 St.eb (H:=λ sv=>sep (cP b (sv::rest)) (bJ sv l)) sv (St.join hs)
theorem lr.open {w0 w:World} {A:Nat->Prop} {R:List HP} {b:Nat} {rest:List Value} {l:List Int} (hs:St w0 A (lr b rest l::R) w):∃ sv,St w0 A (cP b (sv::rest)::bJ sv l::R) w:=by
 obtain ⟨sv,hs⟩:=hs.eH; exact ⟨sv,hs.split⟩
def jm (l:List Int):Int:=l.getD (l.length - 1) 0
theorem QQ {l:List Int} {e:Int} (h:l[((l.length:Int) - 1).toNat]? = some e):e=jm l:=by
 unfold jm
 rw [List.getD_eq_getElem?_getD,show l.length - 1=((l.length:Int) - 1).toNat from by omega,h]; rfl
theorem C219 (b:Nat) (n:Int) (rest:List Value) (l:List Int) (F:Nat->Prop) (w:World) (hF:(lr b rest l).p w F) (hn:l.length<=1048576):CR 219 [.pointer (some ⟨b,0,none⟩),.int .i64 n] w (λ v w'=>v = .tuple #[]/\ti F (lr b rest (l++[n])) w w'):=by
 have hs:=St.begin hF;obtain ⟨sv,hs⟩:=hs.eH;have hs:=hs.split;refine tN Tryz.func219 ?_;refine aH (aA my (aB fT hs.hb rfl (cO (([n]:List Int)) hs ei rfl rfl (fw rfl) (λ s_x10 _ hs=>?_))));have z8:=(hs).gg;exact dw hs.p2 ei z8 (by simp <;> omega) (by decide) (λ _ _ hs=>have hs:=hs.p1.drop;aH (aA my (bF hs.p1 fT (fw rfl) ((hs).gg.one) (λ _ hs=>have hs:=hs.p1.p1;⟨rfl,(lr.shut hs).mut⟩))))
theorem C193 (b:Nat) (rest:List Value) (l:List Int) (F:Nat->Prop) (w:World) (hF:(lr b rest l).p w F) (hn:l.length<=1048576) (h0:0<l.length):CR 193 [.pointer (some ⟨b,0,none⟩)] w (λ v w'=>v = .int .i64 (jm l)/\ti F (lr b rest (l.take (l.length - 1))) w w'):=by
 have hs:=St.begin hF;obtain ⟨sv,hs⟩:=hs.eH;have hs:=hs.split;refine Vq Tryz.func193 (pl:=ano) ?_;refine aH (aA my (have hs:=hs.drew;aB fT hs.hb rfl (aH (aA my (aB fT hs.hb rfl (aG ei (hs.p1).gg (iT (by omega) ?_)))))));obtain ⟨jM,dG⟩:=gx (l) (i:=((((l).length:Int) - 1)).toNat) (by omega);refine eS hs.p1 ei (by omega) (by omega) (λ _ gS=>qj hs.p1 cK gS dG (aH (aA my (have hs:=hs.drew;aB fT hs.hb rfl (aH (aA my (aB fT hs.hb rfl (aG ei (hs.p1).gg (iT (by omega) (have hs:=hs.p1;Jh ei hs (by omega) (by omega) (λ ag9 hs=>aH (aA my ?_))))))))))))
 refine bF hs.p1 fT (fw rfl) ((hs).gg.one) (λ _ hs=>?_);have hs:=hs.p1.p1;rw [show ((l.length:Int) - 1).toNat=l.length - 1 from by omega] at hs;rw [QQ dG];exact ⟨rfl,(lr.shut hs).mut⟩
theorem C191 (b:Nat) (n hi:Int) (l:List Int) (F:Nat->Prop) (w:World) (hF:(lr b [.int .i64 hi] l).p w F) (hn:l.length<=1048576):CR 191 [.pointer (some ⟨b,0,none⟩),.int .i64 n] w (λ v w'=>v = .tuple #[]/\∃ yW,ti F (lr b [.int .i64 yW] (l++[n])) w w'):=by
 have hs:=St.begin hF;refine Vq Tryz.func191 (pl:=ann) ?_;refine aH (aA pB (mg agF hs (H':=λ _=>lr b [.int .i64 hi] (l++[n])) (Φ:=λ v _=>v = .tuple #[]) (λ F hF=>?_) ?_))
 ·exact C219 b n _ l F _ hF (by omega)
 rintro _ _ rfl hs;obtain ⟨sv,hs⟩:=lr.open hs;exact aH (aA FP (have hs:=hs.drew;aB cK hs.hb rfl (aH (aA pB (aA my (aB fT hs.hb rfl (aG ei (hs.p1).gg (DU (aH (aA FP (bF hs cK (fw rfl) (rfl) (λ _ hs=>have hs:=hs.p1.p1;⟨rfl,_,(lr.shut hs).mut⟩))))))))))))
def mA (ns S:List Int) (x:og):List Int:=
 if eO x.kind=0 then S++[if x.kind=2 then ns.getD x.n.toNat 0 else x.n]
 else if eO x.kind=1 then S.take (S.length - 1)++[F6 x.kind (jm S)]
 else S.take (S.length - 2)++[mP x.kind (jm (S.take (S.length - 1))) (jm S)]
def BG (S:List Int) (x:og):Int:=if eO x.kind=2 then mO x.kind (jm S) else 0
def D1 (ns:List Int):List og->List Int->Int × Int
 | [],S=>(jm S,0)
 | x::r,S=>if BG S x=0 then D1 ns r (mA ns S x) else (0,BG S x)
def runM (l:List og) (ns:List Int):Int × Int:=if lj l ns.length=true then D1 ns l [] else (0,8)
theorem vU (k:Int):eO k=0\/eO k=1\/eO k=2:=by
 unfold eO
 repeat' split
 all_goals omega
section
variable {xs:List og} {ns S:List Int} {k:Nat} {x:og} {n h:Int}
theorem zd (hx:xs[k]? = some x) (h:BG S x=0):D1 ns (xs.drop k) S=D1 ns (xs.drop (k+1)) (mA ns S x):=by
 obtain ⟨hk,he⟩:=List.getElem?_eq_some_iff.1 hx
 rw [List.drop_eq_getElem_cons hk,he,D1,if_pos h]
theorem QS (hx:xs[k]? = some x) (h:¬ BG S x=0):D1 ns (xs.drop k) S=(0,BG S x):=by
 obtain ⟨hk,he⟩:=List.getElem?_eq_some_iff.1 hx
 rw [List.drop_eq_getElem_cons hk,he,D1,if_neg h]
theorem BH {many:Int} (h:lj xs many=true):xs.length<=40/\(∃ a,ht xs=some (1,a))/\∀ x∈xs,pF many x=false:=by
 unfold lj at h
 rw [Bool.and_eq_true,Bool.and_eq_true,Bool.and_eq_true,decide_eq_true_eq,decide_eq_true_eq] at h
 obtain ⟨⟨⟨h1,h2⟩,h3⟩,h4⟩:=h
 refine ⟨h1,?_,λ x hx=>?_⟩
 ·unfold htN at h3
  cases hh:ht xs with
  | none=>rw [hh] at h2; cases h2
  | some p=>rw [hh] at h3; exact ⟨p.2,by rw [<- h3]⟩
 have:xs.any (pF many)=false:=by simpa using h4
 rw [List.any_eq_false] at this
 simpa using this x hx
theorem NC (hw:eO x.kind<=(S.length:Int)):((mA ns S x).length:Int)=S.length - eO x.kind+1:=by
 unfold mA
 rcases vU x.kind with h | h | h
 ·rw [if_pos h,h,List.length_append,List.length_singleton]; omega
 ·rw [if_neg (by omega),if_pos h,h,List.length_append,List.length_take,List.length_singleton]; omega
 rw [if_neg (by omega),if_neg (by omega),h,List.length_append,List.length_take,List.length_singleton]; omega
theorem ND {a:Int} (iH:ht xs=some (1,a)) (F7:ht (xs.take k)=some ((S.length:Int),h)) (hx:xs[k]? = some x) :
  eO x.kind<=(S.length:Int)/\∃ h',ht (xs.take (k+1))=some (((mA ns S x).length:Int),h'):=by
 have hw:eO x.kind<=(S.length:Int):=by
  rcases Int.lt_or_le ((S.length:Int) - eO x.kind) 0 with h1 | h1
  ·have:=Lv (ab8 hx F7 rfl h1); rw [iH] at this; cases this
  ·omega
 exact ⟨hw,_,(VZ hx F7 rfl (by omega)).trans (by rw [NC hw])⟩
theorem ab9 (hw:eO x.kind=0) (h2:¬ x.kind=2):mA ns S x=S++[x.n]:=by unfold mA; rw [if_pos hw,if_neg h2]
theorem aca {e:Int} (hw:eO x.kind=0) (h2:x.kind=2) (he:ns[x.n.toNat]? = some e):mA ns S x=S++[e]:=by
 unfold mA; rw [if_pos hw,if_pos h2,List.getD_eq_getElem?_getD,he]; rfl
theorem acb (hw:eO x.kind=1):mA ns S x=S.take (S.length - 1)++[F6 x.kind (jm S)]:=by unfold mA; rw [if_neg (by omega),if_pos hw]
theorem acd (hw:eO x.kind=2):mA ns S x=S.take (S.length - 2)++[mP x.kind (jm (S.take (S.length - 1))) (jm S)]:=by unfold mA; rw [if_neg (by omega),if_neg (by omega)]
theorem QT (hw:¬ eO x.kind=2):BG S x=0:=by unfold BG; rw [if_neg hw]
theorem Z6 (hw:eO x.kind=2):BG S x=mO x.kind (jm S):=by unfold BG; rw [if_pos hw]
theorem Jk (h:2<=S.length):(S.take (S.length - 1)).take ((S.take (S.length - 1)).length - 1)=S.take (S.length - 2):=by
 rw [List.take_take,List.length_take]; congr 1; omega
end
def jT (b:Nat) (l:List Int):HP:=yJ fun (hi:Int)=>lr b [.int .i64 hi] l
theorem jT.shut {w0 w:World} {A:Nat->Prop} {R:List HP} {b:Nat} {hi:Int} {l:List Int} (hs:St w0 A (lr b [.int .i64 hi] l::R) w):St w0 A (jT b l::R) w:=
 St.eb (H:=fun (hi:Int)=>lr b [.int .i64 hi] l) hi hs
theorem V0 (b:Nat) (n:Int) (l:List Int) (F:Nat->Prop) (w:World) (hF:(jT b l).p w F) (hn:l.length<=1048576) :
  Calls Tryz.prog 191 [.pointer (some ⟨b,0,none⟩),.int .i64 n].toArray w (mW λ v w'=>v = .tuple #[]/\ti F (jT b (l++[n])) w w'):=by
 obtain ⟨hi,hF⟩:=hF
 refine (C191 b n hi l F w hF hn).mono λ e w' ⟨v,he,hv,yW,F',h1,h2⟩=>⟨v,he,hv,F',⟨yW,h1⟩,h2⟩
theorem V1 (b:Nat) (l:List Int) (F:Nat->Prop) (w:World) (hF:(jT b l).p w F) (hn:l.length<=1048576) (h0:0<l.length) :
  Calls Tryz.prog 193 [.pointer (some ⟨b,0,none⟩)].toArray w (mW λ v w'=>v = .int .i64 (jm l)/\ti F (jT b (l.take (l.length - 1))) w w'):=by
 obtain ⟨hi,hF⟩:=hF
 refine (C193 b [.int .i64 hi] l F w hF hn h0).mono λ e w' ⟨v,he,hv,F',h1,h2⟩=>⟨v,he,hv,F',⟨hi,h1⟩,h2⟩
theorem C154 (sv nv:Value) (xs:List og) (ns:List Int) (w:World) (hL:dx (λ _=>True) w sv xs) (hN:dx (λ _=>True) w nv ns) (hn:xs.length<=1048576):CR 154 [sv,nv] w (λ v w'=>v = .tuple #[.int .i64 (runM xs ns).1,.int .i64 (runM xs ns).2]/\Ext w w'):=by
 have hs:=St.start w;refine VA _ _ _ _ ?_;unfold S154;refine aG ei (hN.ext hs.aE) (bO agx hs (C189 _ _ _ _ (hL.ext hs.aE) hn) (λ w1 he hs=>bH (bI (λ nQ=>?_) (λ nQ=>?_))))
 ·unfold runM;rw [if_neg (by simpa using nQ)];exact ⟨rfl,hs.aE⟩
 refine aN hs VT (λ sg _ hs=>?_);have hs:=jT.shut (lr.shut (hs.fy (α:=Int)).p1);have z7:lj xs (ns.length:Int)=true:=by simpa using nQ
 obtain ⟨h40,⟨a0,iH⟩,anD⟩:=BH z7;refine aG ui (hL.ext hs.aE) ?_;refine ⟨λ m x w1=>∃ (k:Nat) (S:List Int) (h:Int),x = .int .i64 (k:Int)/\m=xs.length - k/\k<=xs.length/\D1 ns xs []=D1 ns (xs.drop k) S/\ht (xs.take k)=some ((S.length:Int),h)/\St w bD [jT sg S] w1,⟨_,0,[],0,rfl,rfl,by omega,rfl,rfl,hs⟩,?_⟩;rintro m _ _ ⟨k,S,h,rfl,rfl,hk,vt,F7,hs⟩ _;refine aS (aC (λ yj=>?_) (λ yj=>?_))
 ·refine ⟨_,?_,λ _ h=>h⟩;obtain ⟨gT,ji⟩:=gx (xs) (i:=((k:Int)).toNat) (by omega);refine aU ui (hL.ext hs.aE) (by omega) ji (λ _ z9=>aF zT (z9) (aN hs DO (λ ag8 _ hs=>aO (x:=gT) hs zT rfl rfl (λ _ hs=>aA jZ (aB cK hs.hb rfl (bO Qh hs (C190 _ _) (λ _ he hs=>?_)))))));have IG:=anD _ (List.mem_of_getElem? ji);unfold pF at IG;have ho:=of_decide_eq_false IG;obtain ⟨hw0,h2,V2⟩:=ND (ns:=ns) (k:=k) iH F7 ji;have hwk:eO gT.kind=0->gT.kind=1\/gT.kind=2\/¬ (gT.kind=1\/gT.kind=2):=λ _=>by omega
  have hSk:=ab7 k _ _ (by omega) F7;have hw3:=vU gT.kind;refine aI (aC (λ QU=>aA mz (aB cK hs.hb rfl ⟨_,aA jZ (aB cK hs.hb rfl (aI (aC (λ F8=>?_) (λ F8=>?_)))),λ _ _ h=>h⟩)) (λ QU=>aI (aC (λ Z7=>?_) (λ Z7=>?_))))
  ·refine aA mz (aB cK hs.hb rfl ?_);obtain ⟨Z8,QV⟩:=gx (ns) (i:=((gT).n).toNat) (by omega);refine aU ei (hN.ext hs.aE) (by omega) QV (λ _ aha=>aF cK (aha) ?_);intro yi;refine mg KV hs.p1 (H':=λ _=>jT sg (S++[Z8])) (Φ:=λ v _=>v = .tuple #[]) (λ F hF=>?_) ?_
   ·exact V0 sg Z8 S F _ hF (by first | omega | (simp only [List.length_take,List.length_append,List.length_singleton]; omega))
   rintro _ w8 rfl hs;intro Pp;refine aT (by omega) ?_;have hs:=(hs.p1).drop;have hst:mA ns S gT=_:=aca QU F8 QV;exact ⟨_,by omega,k+1,_,_,rfl,rfl,by omega,vt.trans (zd (k:=k) ji (QT (by omega))),V2,by rw [hst]; exact hs⟩
  ·intro yi;refine mg KV hs.p1 (H':=λ _=>jT sg (S++[(gT).n])) (Φ:=λ v _=>v = .tuple #[]) (λ F hF=>?_) ?_
   ·exact V0 sg (gT).n S F _ hF (by first | omega | (simp only [List.length_take,List.length_append,List.length_singleton]; omega))
   rintro _ w8 rfl hs;intro Pp;refine aT (by omega) ?_;have hs:=(hs.p1).drop;have hst:mA ns S gT=_:=ab9 QU F8;exact ⟨_,by omega,k+1,_,_,rfl,rfl,by omega,vt.trans (zd (k:=k) ji (QT (by omega))),V2,by rw [hst]; exact hs⟩
  ·refine aA jZ (have hs:=hs.drew;aB cK hs.hb rfl (aA pB (mg KW hs.p1 (H':=λ _=>jT sg (S.take (S.length - 1))) (Φ:=λ v _=>v = .int .i64 (jm S)) (λ F hF=>?_) ?_)))
   ·exact V1 sg S F _ hF (by first | omega | (simp only [List.length_take,List.length_append,List.length_singleton]; omega)) (by first | omega | (simp only [List.length_take,List.length_append,List.length_singleton]; omega))
   rintro _ _ rfl hs;refine ⟨aD cK (hs.p1.hb.cell rfl),?_⟩;refine bO agy hs (C192 _ _ _) (λ _ he hs=>aR rfl (aR rfl (mg KV hs (H':=λ _=>jT sg ((S.take (S.length - 1))++[(F6 (gT).kind (jm S))])) (Φ:=λ v _=>v = .tuple #[]) (λ F hF=>?_) ?_)))
   ·exact V0 sg (F6 (gT).kind (jm S)) (S.take (S.length - 1)) F _ hF (by first | omega | (simp only [List.length_take,List.length_append,List.length_singleton]; omega))
   rintro _ _ rfl hs;intro Pp;refine aT (by omega) ?_;have hs:=(hs.p1).drop;have hst:mA ns S gT=_:=acb Z7;exact ⟨_,by omega,k+1,_,_,rfl,rfl,by omega,vt.trans (zd (k:=k) ji (QT (by omega))),V2,by rw [hst]; exact hs⟩
  refine aA pB (mg KW hs.p1 (H':=λ _=>jT sg (S.take (S.length - 1))) (Φ:=λ v _=>v = .int .i64 (jm S)) (λ F hF=>?_) ?_)
  ·exact V1 sg S F _ hF (by first | omega | (simp only [List.length_take,List.length_append,List.length_singleton]; omega)) (by first | omega | (simp only [List.length_take,List.length_append,List.length_singleton]; omega))
  rintro _ _ rfl hs;refine aA jZ (have hs:=hs.drew;aB cK hs.p1.hb rfl (aA pB (mg KW hs (H':=λ _=>jT sg ((S.take (S.length - 1)).take ((S.take (S.length - 1)).length - 1))) (Φ:=λ v _=>v = .int .i64 (jm (S.take (S.length - 1)))) (λ F hF=>?_) ?_)))
  ·exact V1 sg (S.take (S.length - 1)) F _ hF (by first | omega | (simp only [List.length_take,List.length_append,List.length_singleton]; omega)) (by first | omega | (simp only [List.length_take,List.length_append,List.length_singleton]; omega))
  rintro _ _ rfl hs;refine ⟨aD cK (hs.p1.hb.cell rfl),?_⟩;refine bO agz hs (C194 _ _ _ _) (λ _ he hs=>aR rfl (aR rfl (cS (aC (λ F9=>?_) (λ F9=>?_)))))
  ·have hz:BG S gT=mO gT.kind (jm S):=Z6 (by have:=vU gT.kind; omega);unfold runM;rw [if_pos z7,vt,QS (k:=k) ji (by rw [hz]; exact F9),hz];exact ⟨rfl,hs.aE⟩
  refine mg KV hs (H':=λ _=>jT sg (((S.take (S.length - 1)).take ((S.take (S.length - 1)).length - 1))++[(mP (gT).kind (jm (S.take (S.length - 1))) (jm S))])) (Φ:=λ v _=>v = .tuple #[]) (λ F hF=>?_) ?_
  ·exact V0 sg (mP (gT).kind (jm (S.take (S.length - 1))) (jm S)) ((S.take (S.length - 1)).take ((S.take (S.length - 1)).length - 1)) F _ hF (by first | omega | (simp only [List.length_take,List.length_append,List.length_singleton]; omega))
  rintro _ _ rfl hs;intro Pp;refine aT (by omega) ?_;have hs:=(hs.p1).drop;rw [Jk (by omega)] at hs;have hst:mA ns S gT=_:=acd (by have:=vU gT.kind; omega);exact ⟨_,by omega,k+1,_,_,rfl,rfl,by omega,vt.trans (zd (k:=k) ji ((Z6 (by have:=vU gT.kind; omega)).trans (Decidable.not_not.1 F9))),V2,by rw [hst]; exact hs⟩
 refine aA pB ?_
 have hS1:S.length=1:=by
  rw [List.take_of_length_le (by omega),iH] at F7;have:=(Prod.mk.inj (Option.some.inj F7)).1;omega
 refine mg KW hs (H':=λ _=>jT sg (S.take (S.length - 1))) (Φ:=λ v _=>v = .int .i64 (jm S)) (λ F hF=>?_) ?_
 ·exact V1 sg S F _ hF (by first | omega | (simp only [List.length_take,List.length_append,List.length_singleton]; omega)) (by first | omega | (simp only [List.length_take,List.length_append,List.length_singleton]; omega))
 rintro _ _ rfl hs;unfold runM;rw [if_pos z7,vt,List.drop_eq_nil_of_le (by omega)];exact ⟨rfl,hs.aE⟩
def cI (ns:List ByteArray) (s:ByteArray):Int:=pE (λ y=>decide (y=s)) ns
def ju (p:bQ):List bP:=p.lines.flatten++p.fr
structure PS (p:bQ):Prop where
 lines:p.lines.length<=500
 line:∀ l∈p.lines,l.length<=500
 fr:p.fr.length<=500
 dL:p.dL.length<=500
 threads:p.threads.length<=500
 recover:p.recover.length<=500
 dF:p.dF.length<=500
 cW:∀ t∈p.threads++p.recover,t.cW.length<=500
 body:∀ t∈p.threads++p.recover,t.body.length<=500
theorem cJ {ls:List (List bP)} (h:∀ l∈ls,l.length<=500):ls.flatten.length<=500 * ls.length:=by
 induction ls with
 | nil=>simp
 | cons a ls ih=>
  have h1:=h a (by simp)
  have h2:=ih λ l hl=>h l (List.mem_cons_of_mem _ hl)
  rw [List.flatten_cons,List.length_append,List.length_cons]; omega
theorem sj {p:bQ} (h:PS p):(ju p).length<=250500:=by
 have h1:=cJ h.line
 have h2:=h.lines
 have h3:=h.fr
 unfold ju; rw [List.length_append]; omega
theorem fO {α β:Type} {f:α->β} {l:List α} {k:Nat} {e:α} (h:l[k]? = some e):(l.take k).map f++[f e]=(l.take (k+1)).map f:=by rw [<- fY h,List.map_append]; rfl
def kids (k:Int):Int:=if k=1\/k=2 then 0 else if k=3\/k=4 then 1 else if 5<=k/\k<=15 then 2 else -1
theorem xl (k:Int) : -1<=kids k/\kids k<=2:=by
 unfold kids
 repeat' split
 all_goals omega
def lu (c:Int):Bool:=decide (97<=c/\c<=122\/c=95)
def qB (c:Int):Bool:=decide (48<=c/\c<=57)
def Ga:List ByteArray:=[⟨#[108,105,110,101]⟩,⟨#[118,111,108]⟩,⟨#[108,111,99,107]⟩,⟨#[116,104,114,101,97,100]⟩,⟨#[114,101,103]⟩,⟨#[108,111,97,100]⟩,⟨#[115,116,111,114,101]⟩,⟨#[99,97,115]⟩,⟨#[102,108,117,115,104]⟩,⟨#[111,112,116]⟩,⟨#[115,102,101,110,99,101]⟩,⟨#[109,102,101,110,99,101]⟩,⟨#[116,97,107,101]⟩,⟨#[103,105,118,101]⟩,⟨#[105,102]⟩,⟨#[101,108,115,101]⟩,⟨#[108,111,111,112]⟩,⟨#[98,114,101,97,107]⟩,⟨#[99,104,101,99,107]⟩,⟨#[114,101,99,111,118,101,114]⟩,⟨#[97,108,119,97,121,115]⟩]
def gh (s:ByteArray):Bool:=!(decide (s.size<1\/16<s.size) || (match (oR s)[0]? with | some c=>!lu c.toNat | none=>true) || Ga.any (λ y=>decide (y=s))) && !(oR s).any (λ c=>!lu c.toNat && !qB c.toNat)
def skip:Nat->List bL->Option (List bL)
 | 0,l=>some l
 | _+1,[]=>none
 | n+1,x::l=>if kids x.op<0 then none else skip (n+(kids x.op).toNat) l
theorem Aa (l:List bL):skip 0 l=some l:=by cases l <;> rfl
theorem QW (l:List bL):∀ a b,skip (a+b) l=(skip a l).bind (skip b):=by
 induction l with
 | nil=>
  intro a b
  cases a with
  | zero=>rw [Nat.zero_add,Aa]; rfl
  | succ a=>rw [show a+1+b=(a+b)+1 from by omega]; rfl
 | cons x l ih=>
  intro a b
  cases a with
  | zero=>rw [Nat.zero_add,Aa]; rfl
  | succ a=>
   rw [show a+1+b=(a+b)+1 from by omega]
   show (if kids x.op<0 then none else skip (a+b+(kids x.op).toNat) l)=(if kids x.op<0 then none else skip (a+(kids x.op).toNat) l).bind (skip b)
   split
   ·rfl
   ·rw [show a+b+(kids x.op).toNat=a+(kids x.op).toNat+b from by omega]; exact ih _ _
def stP (n:Nat) (o:Option (List bL)):Int:=match o with | some r=>(n:Int) - r.length | none=>-1
def uP (xs:List bL) (i:Int):Int:=if i<0 then -1 else stP xs.length (skip 1 (xs.drop i.toNat))
inductive Ex where
 | leaf (x:bL)
 | un (x:bL) (a:Ex)
 | bin (x:bL) (a b:Ex)
namespace Ex
def root:Ex->bL | leaf x=>x | un x _=>x | bin x _ _=>x
def ej:Ex->List Ex | leaf _=>[] | un _ a=>[a] | bin _ a b=>[a,b]
def flat:Ex->List bL | leaf x=>[x] | un x a=>x::a.flat | bin x a b=>x::(a.flat++b.flat)
def wf:Ex->Prop | leaf x=>kids x.op=0 | un x a=>kids x.op=1/\a.wf | bin x a b=>kids x.op=2/\a.wf/\b.wf
def depth:Ex->Int | leaf _=>1 | un _ a=>a.depth+1 | bin _ a b=>max a.depth b.depth+1
def size:Ex->Nat | leaf _=>1 | un _ a=>a.size+1 | bin _ a b=>a.size+b.size+1
def numOf (ns:List ByteArray) (x:bL):Int:=if x.op=2 then cI ns x.name else x.n
def steps (ns:List ByteArray):Ex->List og
 | leaf x=>[⟨x.op,numOf ns x⟩]
 | un x a=>a.steps ns++[⟨x.op,numOf ns x⟩]
 | bin x a b=>a.steps ns++b.steps ns++[⟨x.op,numOf ns x⟩]
end Ex
theorem Ex.cJ (t:Ex):t.flat.length=t.size:=by
 induction t with
 | leaf x=>rfl
 | un x a ih=>simp [Ex.flat,Ex.size,ih]
 | bin x a b sm sn=>simp [Ex.flat,Ex.size,sm,sn]
theorem Ex.Ck (t:Ex):t.flat=t.root::(t.ej.map Ex.flat).flatten:=by
 cases t <;> simp [Ex.flat,Ex.root,Ex.ej]
theorem Ex.Ab {t:Ex} (h:t.wf):kids t.root.op=t.ej.length:=by
 cases t with
 | leaf x=>exact h
 | un x a=>exact h.1
 | bin x a b=>exact h.1
theorem Ex.Ac {t a:Ex} (h:t.wf) (ha:a∈t.ej):a.wf/\a.size<t.size:=by
 cases t with
 | leaf x=>cases ha
 | un x b=>rw [List.mem_singleton.1 ha]; exact ⟨h.2,by simp [Ex.size]⟩
 | bin x b c=>
  rcases List.mem_cons.1 ha with rfl | ha
  ·exact ⟨h.2.1,by simp [Ex.size]; omega⟩
  ·rw [List.mem_singleton.1 ha]; exact ⟨h.2.2,by simp [Ex.size]; omega⟩
theorem Ex.tm (t:Ex):1<=t.depth/\t.depth<=t.size:=by
 induction t with
 | leaf x=>simp [Ex.depth,Ex.size]
 | un x a ih=>simp only [Ex.depth,Ex.size]; omega
 | bin x a b sm sn=>simp only [Ex.depth,Ex.size]; omega
theorem Ex.tn (ns:List ByteArray) (t:Ex):(t.steps ns).length=t.size:=by
 induction t with
 | leaf x=>rfl
 | un x a ih=>simp [Ex.steps,Ex.size,ih]
 | bin x a b sm sn=>simp [Ex.steps,Ex.size,sm,sn]; omega
theorem NF (t:Ex) (h:t.wf):∀ n r,skip (n+1) (t.flat++r)=skip n r:=by
 induction t with
 | leaf x=>
  intro n r
  show (if kids x.op<0 then none else skip (n+(kids x.op).toNat) r)=_
  rw [show kids x.op=0 from h]; rfl
 | un x a ih=>
  intro n r
  show (if kids x.op<0 then none else skip (n+(kids x.op).toNat) (a.flat++r))=_
  rw [show kids x.op=1 from h.1,if_neg (by omega)]; exact ih h.2 n r
 | bin x a b sm sn=>
  intro n r
  show (if kids x.op<0 then none else skip (n+(kids x.op).toNat) (a.flat++b.flat++r))=_
  rw [show kids x.op=2 from h.1,if_neg (by omega),List.append_assoc]
  show skip (n+1+1) _=_
  rw [sm h.2.1 (n+1),sn h.2.2 n]
theorem Ly:∀ (k:Nat) (l r:List bL),l.length<=k->skip 1 l=some r->∃ t:Ex,t.wf/\l=t.flat++r
 | k,[],r,_,h=>by cases h
 | 0,x::l,r,hk,_=>by simp at hk
 | k+1,x::l,r,hk,h=>by
  have hk:l.length<=k:=by simpa using hk
  have h:(if kids x.op<0 then none else skip (0+(kids x.op).toNat) l)=some r:=h
  have hb:=xl x.op
  split at h
  ·cases h
  ·rcases (show kids x.op=0\/kids x.op=1\/kids x.op=2 by omega) with h0 | h0 | h0
   ·rw [h0] at h
    have h:skip 0 l=some r:=h
    rw [Aa] at h; cases h
    exact ⟨.leaf x,h0,rfl⟩
   ·rw [h0] at h
    obtain ⟨a,ha,rfl⟩:=Ly k l r hk h
    exact ⟨.un x a,⟨h0,ha⟩,rfl⟩
   ·rw [h0] at h
    have h:skip (1+1) l=some r:=h
    rw [QW] at h
    obtain ⟨m,h1,h2⟩:=Option.bind_eq_some_iff.1 h
    obtain ⟨a,ha,rfl⟩:=Ly k l m hk h1
    obtain ⟨b,oE,rfl⟩:=Ly k m r (by simp at hk; omega) h2
    exact ⟨.bin x a b,⟨h0,ha,oE⟩,by simp [Ex.flat]⟩
def Fe (xs:List bL) (i:Int) (t:Ex):Prop:=0<=i/\t.wf/\∃ r,xs.drop i.toNat=t.flat++r
theorem Fe.root {xs:List bL} {i:Int} {t:Ex} (h:Fe xs i t):xs[i.toNat]? = some t.root/\i<xs.length:=by
 obtain ⟨h0,_,r,h⟩:=h
 have:(xs.drop i.toNat)[0]? = some t.root:=by rw [h,Ex.Ck]; rfl
 rw [List.getElem?_drop,Nat.add_zero] at this
 exact ⟨this,by have:=(List.getElem?_eq_some_iff.1 this).1; omega⟩
theorem Fe.end {xs:List bL} {i:Int} {t:Ex} (h:Fe xs i t):uP xs i=i+t.size/\i+t.size<=xs.length:=by
 have eU:=h.root.2
 obtain ⟨h0,hw,r,h⟩:=h
 have hl:=congrArg List.length h
 rw [List.length_drop,List.length_append,Ex.cJ] at hl
 refine ⟨?_,by omega⟩
 unfold uP
 rw [if_neg (by omega),h,NF t hw 0 r,Aa]
 unfold stP; simp only []; omega
theorem Fe.of {xs:List bL} {i:Int} (h:0<=uP xs i):∃ t,Fe xs i t:=by
 unfold uP at h
 split at h
 ·omega
 cases hs:skip 1 (xs.drop i.toNat) with
 | none=>rw [hs] at h; unfold stP at h; simp only [] at h; omega
 | some r=>
  obtain ⟨t,hw,he⟩:=Ly _ _ r (Nat.le_refl _) hs
  exact ⟨t,by omega,hw,r,he⟩
def rD (ks:List Ex) (k:Nat):Nat:=((ks.take k).map Ex.size).sum
theorem Cl {ks:List Ex} {k:Nat} {a:Ex} (h:ks[k]? = some a):rD ks (k+1)=rD ks k+a.size:=by
 unfold rD; rw [<- fY h]; simp
theorem Fe.kid {xs:List bL} {i:Int} {t a:Ex} {k:Nat} (h:Fe xs i t) (ha:t.ej[k]? = some a):Fe xs (i+1+rD t.ej k) a:=by
 obtain ⟨h0,hw,r,h⟩:=h
 refine ⟨by omega,(Ex.Ac hw (List.mem_of_getElem? ha)).1,?_⟩
 have hs:t.ej=t.ej.take k++a::t.ej.drop (k+1):=by
  obtain ⟨hk,he⟩:=List.getElem?_eq_some_iff.1 ha
  rw [<- he,List.getElem_cons_drop,List.take_append_drop]
 have hl:(((t.ej.take k).map Ex.flat).flatten).length=rD t.ej k:=by
  unfold rD
  rw [List.length_flatten,List.map_map]
  congr 2
  exact funext λ x=>Ex.cJ x
 have h2:xs.drop (i.toNat+1)=((t.ej.take k).map Ex.flat).flatten++(a.flat++(((t.ej.drop (k+1)).map Ex.flat).flatten++r)):=by
  rw [<- List.drop_drop,h,Ex.Ck t]
  show (t.ej.map Ex.flat).flatten++r=_
  conv=>lhs; rw [hs]
  simp
 refine ⟨((t.ej.drop (k+1)).map Ex.flat).flatten++r,?_⟩
 rw [show (i+1+(rD t.ej k:Int)).toNat=i.toNat+1+rD t.ej k from by omega,<- List.drop_drop,h2,<- hl,List.drop_left]
def Ad (ks:List Ex) (k:Nat):Int:=((ks.take k).map Ex.depth).foldl max 0
theorem Cm {ks:List Ex} {k:Nat} {a:Ex} (h:ks[k]? = some a):Ad ks (k+1)=max (Ad ks k) a.depth:=by
 unfold Ad; rw [<- fY h,List.map_append,List.foldl_append]; rfl
theorem QX {ks:List Ex} {N:Int} (h0:0<=N) (h:∀ a∈ks,a.depth<=N):∀ k,0<=Ad ks k/\Ad ks k<=N
 | 0=>by simp [Ad,h0]
 | k+1=>by
  have ih:=QX h0 h k
  cases hx:ks[k]? with
  | none=>
   have e:ks.take (k+1)=ks.take k:=by rw [List.take_add_one,hx]; simp
   unfold Ad at *; rw [e]; exact ih
  | some a=>rw [Cm hx]; have:=h a (List.mem_of_getElem? hx); omega
theorem Ex.QY (t:Ex):t.depth=Ad t.ej t.ej.length+1:=by
 cases t with
 | leaf x=>rfl
 | un x a=>have:=a.tm; simp only [Ex.depth,Ex.ej,Ad,List.length_singleton,List.take_succ_cons,List.take_zero,List.map_cons,List.map_nil,List.foldl_cons,List.foldl_nil]; omega
 | bin x a b=>have:=a.tm; simp only [Ex.depth,Ex.ej,Ad,List.length_cons,List.length_nil,List.take_succ_cons,List.take_zero,List.map_cons,List.map_nil,List.foldl_cons,List.foldl_nil]; omega
def V3 (ns:List ByteArray) (ks:List Ex) (k:Nat):List og:=((ks.take k).map (Ex.steps ns)).flatten
theorem QZ {ns:List ByteArray} {ks:List Ex} {k:Nat} {a:Ex} (h:ks[k]? = some a):V3 ns ks (k+1)=V3 ns ks k++a.steps ns:=by
 unfold V3; rw [<- fY h]; simp
theorem Lz {ns:List ByteArray} {ks:List Ex} {k:Nat}:(V3 ns ks k).length=rD ks k:=by
 unfold V3 rD
 rw [List.length_flatten,List.map_map]
 congr 2
 exact funext λ x=>Ex.tn ns x
theorem Ex.Ae (ns:List ByteArray) (t:Ex):t.steps ns=V3 ns t.ej t.ej.length++[⟨t.root.op,Ex.numOf ns t.root⟩]:=by
 cases t <;> simp [Ex.steps,Ex.ej,V3,Ex.root]
def pt:Nat->List bL->Option (Ex × List bL)
 | 0,_=>none
 | _+1,[]=>none
 | n+1,x::l=>
  if kids x.op=0 then some (.leaf x,l) else if kids x.op=1 then (match pt n l with | some p=>some (.un x p.1,p.2) | none=>none)
  else if kids x.op=2 then (match pt n l with | some p=>(match pt n p.2 with | some q=>some (.bin x p.1 q.1,q.2) | none=>none) | none=>none) else none
theorem V4 (t:Ex) (h:t.wf):∀ n r,t.size<=n->pt n (t.flat++r)=some (t,r):=by
 induction t with
 | leaf x=>
  intro n r hn
  cases n with
  | zero=>simp [Ex.size] at hn
  | succ n=>show (if kids x.op=0 then _ else _)=_; rw [if_pos (show kids x.op=0 from h)]; rfl
 | un x a ih=>
  intro n r hn
  cases n with
  | zero=>simp [Ex.size] at hn
  | succ n=>
   have h1:kids x.op=1:=h.1
   show (if kids x.op=0 then _ else if kids x.op=1 then (match pt n (a.flat++r) with | some p=>some (Ex.un x p.1,p.2) | none=>none) else _)=_
   rw [if_neg (by omega),if_pos h1,ih h.2 n r (by simp [Ex.size] at hn; omega)]
 | bin x a b sm sn=>
  intro n r hn
  cases n with
  | zero=>simp [Ex.size] at hn
  | succ n=>
   have h1:kids x.op=2:=h.1
   show (if kids x.op=0 then _ else if kids x.op=1 then _ else if kids x.op=2 then (match pt n (a.flat++b.flat++r) with | some p=>(match pt n p.2 with | some q=>some (Ex.bin x p.1 q.1,q.2) | none=>none) | none=>none) else _)=_
   rw [if_neg (by omega),if_neg (by omega),if_pos h1,List.append_assoc,sm h.2.1 n _ (by simp [Ex.size] at hn; omega)]
   simp only []
   rw [sn h.2.2 n _ (by simp [Ex.size] at hn; omega)]
def vV (l:List bL):Option Ex:=match pt l.length l with | some p=>if p.2=[] then some p.1 else none | none=>none
theorem Cn {t:Ex} (h:t.wf):vV t.flat=some t:=by
 unfold vV
 have:=V4 t h t.flat.length [] (by rw [Ex.cJ]; exact Nat.le_refl _)
 rw [List.append_nil] at this
 rw [this]; rfl
theorem Fe.zero {l:List bL} {t:Ex} (h:Fe l 0 t) (he:uP l 0=l.length):l=t.flat/\vV l=some t:=by
 have h1:=h.end
 obtain ⟨_,hw,r,h⟩:=h
 have hl:=congrArg List.length h
 rw [List.length_append,Ex.cJ] at hl
 simp at hl
 have:r=[]:=List.length_eq_zero_iff.1 (by omega)
 subst this
 have h:l=t.flat:=by simpa using h
 exact ⟨h,by rw [h]; exact Cn hw⟩
theorem vW:∀ n l t r,pt n l=some (t,r)->t.wf/\l=t.flat++r
 | 0,l,t,r,h=>by cases h
 | n+1,[],t,r,h=>by cases h
 | n+1,x::l,t,r,h=>by
  have h:(if kids x.op=0 then some (Ex.leaf x,l) else if kids x.op=1 then (match pt n l with | some p=>some (Ex.un x p.1,p.2) | none=>none)
   else if kids x.op=2 then (match pt n l with | some p=>(match pt n p.2 with | some q=>some (Ex.bin x p.1 q.1,q.2) | none=>none) | none=>none) else none)=some (t,r):=h
  split at h
  ·rename_i hk; cases h; exact ⟨hk,rfl⟩
  ·split at h
   ·rename_i hk
    cases ha:pt n l with
    | none=>rw [ha] at h; cases h
    | some p=>
     rw [ha] at h
     obtain ⟨a,m⟩:=p
     cases h
     obtain ⟨h1,rfl⟩:=vW n l a _ ha
     exact ⟨⟨hk,h1⟩,rfl⟩
   ·split at h
    ·rename_i hk
     cases ha:pt n l with
     | none=>rw [ha] at h; cases h
     | some p=>
      rw [ha] at h
      obtain ⟨a,m⟩:=p
      simp only [] at h
      cases hb:pt n m with
      | none=>rw [hb] at h; cases h
      | some q=>
       rw [hb] at h
       obtain ⟨b,m'⟩:=q
       cases h
       obtain ⟨h1,rfl⟩:=vW n l a _ ha
       obtain ⟨h2,rfl⟩:=vW n m b _ hb
       exact ⟨⟨hk,h1,h2⟩,by simp [Ex.flat]⟩
    ·cases h
theorem uQ {l:List bL} {t:Ex} (h:vV l=some t):t.wf/\l=t.flat:=by
 unfold vV at h
 cases hp:pt l.length l with
 | none=>rw [hp] at h; cases h
 | some p=>
  rw [hp] at h
  obtain ⟨a,r⟩:=p
  simp only [] at h
  split at h
  ·rename_i hr; cases h
   obtain ⟨h1,h2⟩:=vW _ _ _ _ hp
   subst hr
   exact ⟨h1,by simpa using h2⟩
  ·cases h
theorem Gb {l:List bL}:(vV l).isSome=decide (uP l 0=l.length):=by
 by_cases h:uP l 0=l.length
 ·obtain ⟨t,ht⟩:=Fe.of (xs:=l) (i:=0) (by omega)
  rw [(ht.zero h).2,decide_eq_true h]; rfl
 rw [decide_eq_false h]
 cases he:vV l with
 | none=>rfl
 | some t=>
  obtain ⟨h1,rfl⟩:=uQ he
  exact absurd (by have:=(show Fe t.flat 0 t from ⟨by omega,h1,[],by simp⟩).end.1; rw [this,Ex.cJ]; omega) h
def vX (x:bL):Bool:=decide (x.at_<0\/4000<x.at_) || decide (¬ x.op=1/\¬ x.n=0) || decide (¬ x.op=2/\¬ x.name=⟨#[]⟩) || decide (x.n<0\/4294967296<x.n) || (decide (x.op=2) && !gh x.name)
def LA (l:List bL):Int:=match vV l with | some t=>t.depth | none=>0
def eF (l:List bL):Bool:=decide (l.length<=40) && (vV l).isSome && !l.any vX && decide (LA l<=12)
def D2 (ns:List ByteArray) (l:List bL):List og:=match vV l with | some t=>t.steps ns | none=>[]
def nR (ns:List ByteArray) (l:List bL):Int:=if eF l=false then 8 else if l.any (λ x=>decide (x.op=2) && decide (cI ns x.name<0)) then 9 else 0
def uq (ns:List ByteArray) (l:List bL):List og:=if nR ns l=0 then D2 ns l else []
theorem Jl {l:List bL} (h:eF l=true):uP l 0=l.length:=by
 unfold eF at h
 rw [Gb] at h
 grind
inductive Bk where
 | nil
 | cons (x:aX) (a b r:Bk)
namespace Bk
def flat:Bk->List aX | nil=>[] | cons x a b r=>x::(a.flat++(b.flat++r.flat))
def len:Bk->Nat | nil=>0 | cons _ a b r=>a.len+b.len+r.len+1
def str:Bk->Prop | nil=>True | cons x a b r=>x.body=a.len/\x.eG=b.len/\a.len<=40/\b.len<=40/\a.str/\b.str/\r.str
def LB (x:aX) (loops:Int):Int:=if x.kind=12 then loops+1 else loops
def xm (x:aX):Bool:=decide (x.kind=11\/x.kind=12)
def IJ (x:aX) (loops:Int):Bool:=decide ((x.body<=0\/x.kind=11\/x.kind=12)/\(x.eG<=0\/x.kind=11)/\(¬ x.kind=13\/¬ loops=0))
def ok:Bk->Int->Bool | nil,_=>true | cons x a b r,n=>IJ x n && a.ok (LB x n) && b.ok (LB x n) && r.ok n
def depth:Bk->Int | nil=>0 | cons x a b r=>if xm x then max (max (1+a.depth) (1+b.depth)) r.depth else r.depth
end Bk
theorem Bk.cJ (t:Bk):t.flat.length=t.len:=by
 induction t with
 | nil=>rfl
 | cons x a b r sm sn IK=>simp only [Bk.flat,Bk.len,List.length_cons,List.length_append,sm,sn,IK]; omega
theorem Bk.vY (t:Bk):0<=t.depth/\t.depth<=t.len:=by
 induction t with
 | nil=>simp [Bk.depth,Bk.len]
 | cons x a b r sm sn IK=>
  unfold Bk.depth Bk.len
  split <;> omega
def Pq:Nat->List aX->Option Bk
 | _,[]=>some .nil
 | 0,_::_=>none
 | n+1,x::l=>
  if 0<=x.body/\0<=x.eG/\x.body<=40/\x.eG<=40/\x.body+x.eG<=l.length then
   match Pq n (l.take x.body.toNat),Pq n ((l.drop x.body.toNat).take x.eG.toNat),Pq n (l.drop (x.body.toNat+x.eG.toNat)) with
   | some a,some b,some r=>some (.cons x a b r)
   | _,_,_=>none
  else none
theorem tq:∀ n l t,Pq n l=some t->l=t.flat/\t.str
 | _,[],t,h=>by
  have h:some Bk.nil=some t:=by unfold Pq at h; exact h
  cases h; exact ⟨rfl,trivial⟩
 | 0,x::l,t,h=>by cases h
 | n+1,x::l,t,h=>by
  unfold Pq at h
  split at h
  ·rename_i hb
   obtain ⟨h1,h2,h3,h4,h5⟩:=hb
   cases ha:Pq n (l.take x.body.toNat) with
   | none=>rw [ha] at h; cases h
   | some a=>
    cases hb:Pq n ((l.drop x.body.toNat).take x.eG.toNat) with
    | none=>rw [ha,hb] at h; cases h
    | some b=>
     cases hr:Pq n (l.drop (x.body.toNat+x.eG.toNat)) with
     | none=>rw [ha,hb,hr] at h; cases h
     | some r=>
      rw [ha,hb,hr] at h
      cases h
      obtain ⟨a1,a2⟩:=tq n _ _ ha
      obtain ⟨b1,b2⟩:=tq n _ _ hb
      obtain ⟨r1,r2⟩:=tq n _ _ hr
      have la:=congrArg List.length a1
      have lb:=congrArg List.length b1
      rw [Bk.cJ,List.length_take] at la
      rw [Bk.cJ,List.length_take,List.length_drop] at lb
      refine ⟨?_,by omega,by omega,by omega,by omega,a2,b2,r2⟩
      unfold Bk.flat
      rw [<- a1,<- b1,<- r1,<- List.drop_drop,List.take_append_drop,List.take_append_drop]
  ·cases h
theorem Q0 (t:Bk):t.str->∀ n,t.len<=n->Pq n t.flat=some t:=by
 induction t with
 | nil=>intro _ n _; cases n <;> rfl
 | cons x a b r sm sn IK=>
  intro h n hn
  obtain ⟨h1,h2,h3,h4,ha,hb,hr⟩:=h
  cases n with
  | zero=>simp [Bk.len] at hn
  | succ n=>
   have hn:a.len+b.len+r.len<=n:=by simp [Bk.len] at hn; omega
   have la:=a.cJ
   have lb:=b.cJ
   unfold Bk.flat Pq
   rw [if_pos ⟨by omega,by omega,by omega,by omega,by simp [la,lb]; omega⟩,show x.body.toNat=a.flat.length from by omega,List.take_left,List.drop_left,show x.eG.toNat=b.flat.length from by omega,List.take_left,<- List.drop_drop,List.drop_left,List.drop_left,
    sm ha n (by omega),sn hb n (by omega),IK hr n (by omega)]
def lM (l:List aX):Option Bk:=Pq l.length l
theorem iX {l:List aX} {t:Bk} (h:lM l=some t):l=t.flat/\t.str:=tq _ _ _ h
theorem kL {t:Bk} (h:t.str):lM t.flat=some t:=Q0 t h _ (by rw [Bk.cJ]; exact Nat.le_refl _)
def eJ (l:List aX) (loops:Int):Int:=match lM l with | some t=>if t.ok loops then t.depth else -1 | none=>-1
theorem Co (loops:Int):eJ [] loops=0:=rfl
theorem vZ (l:List aX) (loops:Int) : -1<=eJ l loops/\eJ l loops<=l.length:=by
 unfold eJ
 cases h:lM l with
 | none=>simp only []; omega
 | some t=>
  obtain ⟨rfl,_⟩:=iX h
  have:=t.vY
  simp only [Bk.cJ]
  split <;> omega
def v5 (x:aX) (l:List aX):Prop:=0<=x.body/\0<=x.eG/\x.body<=40/\x.eG<=40/\x.body+x.eG<=l.length
theorem NG {x:aX} {l:List aX} {loops:Int} (h:¬ (v5 x l/\Bk.IJ x loops=true)):eJ (x::l) loops = -1:=by
 unfold eJ
 cases hb:lM (x::l) with
 | none=>rfl
 | some t=>
  obtain ⟨he,hs⟩:=iX hb
  cases t with
  | nil=>cases he
  | cons y a b r=>
   obtain ⟨rfl,rfl⟩:=List.cons.inj he
   obtain ⟨h1,h2,h3,h4,_⟩:=hs
   have:Bk.IJ x loops=false:=by
    cases hk:Bk.IJ x loops with
    | false=>rfl
    | true=>exact absurd ⟨⟨by omega,by omega,by omega,by omega,by simp [Bk.cJ]; omega⟩,hk⟩ h
   have h:(Bk.cons x a b r).ok loops=false:=by unfold Bk.ok; rw [this]; rfl
   simp only [h]; rfl
theorem Af {x:aX} {l:List aX} {loops:Int} (h:v5 x l) (ho:Bk.IJ x loops=true) :
  eJ (x::l) loops=(let A:=eJ (l.take x.body.toNat) (Bk.LB x loops); let B:=eJ ((l.drop x.body.toNat).take x.eG.toNat) (Bk.LB x loops); let R:=eJ (l.drop (x.body.toNat+x.eG.toNat)) loops
   if A<0\/B<0\/R<0 then -1 else if Bk.xm x then max (max (1+A) (1+B)) R else R):=by
 obtain ⟨h1,h2,h3,h4,h5⟩:=h
 have e:l=l.take x.body.toNat++((l.drop x.body.toNat).take x.eG.toNat++l.drop (x.body.toNat+x.eG.toNat)):=by
  rw [<- List.drop_drop,List.take_append_drop,List.take_append_drop]
 have la:(l.take x.body.toNat).length=x.body.toNat:=by rw [List.length_take]; omega
 have lb:((l.drop x.body.toNat).take x.eG.toNat).length=x.eG.toNat:=by rw [List.length_take,List.length_drop]; omega
 simp only []
 have key:∀ t,lM (x::l)=some t->∃ a b r,t = .cons x a b r/\lM (l.take x.body.toNat)=some a/\lM ((l.drop x.body.toNat).take x.eG.toNat)=some b/\lM (l.drop (x.body.toNat+x.eG.toNat))=some r:=by
  intro t ht
  obtain ⟨he,hs⟩:=iX ht
  cases t with
  | nil=>cases he
  | cons y a b r=>
   obtain ⟨rfl,hl⟩:=List.cons.inj he
   obtain ⟨g1,g2,_,_,ha,hb,hr⟩:=hs
   have q1:x.body.toNat=a.flat.length:=by rw [Bk.cJ]; omega
   have q2:x.eG.toNat=b.flat.length:=by rw [Bk.cJ]; omega
   refine ⟨a,b,r,rfl,?_,?_,?_⟩
   ·rw [hl,q1,List.take_left]; exact kL ha
   ·rw [hl,q1,q2,List.drop_left,List.take_left]; exact kL hb
   ·rw [hl,<- List.drop_drop,q1,q2,List.drop_left,List.drop_left]; exact kL hr
 cases ha:lM (l.take x.body.toNat) with
 | none=>
  have:lM (x::l)=none:=by
   cases hh:lM (x::l) with
   | none=>rfl
   | some t=>obtain ⟨a,b,r,_,q,_⟩:=key t hh; rw [ha] at q; cases q
  unfold eJ; rw [this,ha]; simp
 | some a=>
  cases hb:lM ((l.drop x.body.toNat).take x.eG.toNat) with
  | none=>
   have:lM (x::l)=none:=by
    cases hh:lM (x::l) with
    | none=>rfl
    | some t=>obtain ⟨a,b,r,_,_,q,_⟩:=key t hh; rw [hb] at q; cases q
   unfold eJ; rw [this,hb]; simp
  | some b=>
   cases hr:lM (l.drop (x.body.toNat+x.eG.toNat)) with
   | none=>
    have:lM (x::l)=none:=by
     cases hh:lM (x::l) with
     | none=>rfl
     | some t=>obtain ⟨a,b,r,_,_,_,q⟩:=key t hh; rw [hr] at q; cases q
    unfold eJ; rw [this,hr]; simp
   | some r=>
    obtain ⟨a1,a2⟩:=iX ha
    obtain ⟨b1,b2⟩:=iX hb
    obtain ⟨r1,r2⟩:=iX hr
    have hl:x::l=(Bk.cons x a b r).flat:=by unfold Bk.flat; rw [<- a1,<- b1,<- r1,<- e]
    rw [a1,Bk.cJ] at la
    rw [b1,Bk.cJ] at lb
    have:lM (x::l)=some (.cons x a b r):=by rw [hl]; exact kL ⟨by omega,by omega,by omega,by omega,a2,b2,r2⟩
    have na:=a.vY
    have nb:=b.vY
    have nr:=r.vY
    unfold eJ
    rw [this,ha,hb,hr]
    simp only [Bk.ok,ho,Bool.true_and]
    cases h1:a.ok (Bk.LB x loops) <;> cases h2:b.ok (Bk.LB x loops) <;> cases h3:r.ok loops <;> simp [Bk.depth]
    split <;> omega
def so (n d:Int):Int:=if d<0 then -1 else max n d
theorem Q1 {xs l:List aX} {x:aX} {loops n:Int} (h:eJ xs loops=so n (eJ (x::l) loops)) (hb:¬ (v5 x l/\Bk.IJ x loops=true)):eJ xs loops = -1:=by
 rw [h,NG hb]; rfl
theorem acf {xs l:List aX} {x:aX} {loops n:Int} (h:eJ xs loops=so n (eJ (x::l) loops)) (hs:v5 x l) (ho:Bk.IJ x loops=true) (hb:Bk.xm x=true) (A B:Int)
  (hA:A=eJ (l.take x.body.toNat) (Bk.LB x loops)) (hB:B=eJ ((l.drop x.body.toNat).take x.eG.toNat) (Bk.LB x loops)) :
  (A<0\/B<0->eJ xs loops = -1)/\(¬ (A<0\/B<0)->eJ xs loops=so (max (max n (1+A)) (1+B)) (eJ (l.drop (x.body.toNat+x.eG.toNat)) loops)):=by
 have hR:=vZ (l.drop (x.body.toNat+x.eG.toNat)) loops
 rw [h,Af hs ho]
 simp only [<- hA,<- hB,hb,if_true]
 unfold so
 constructor <;> intro h <;> repeat' split
 all_goals omega
theorem ahb {xs l:List aX} {x:aX} {loops n:Int} (h:eJ xs loops=so n (eJ (x::l) loops)) (hs:v5 x l) (ho:Bk.IJ x loops=true) (hb:Bk.xm x=false) :
  eJ xs loops=so n (eJ (l.drop (x.body.toNat+x.eG.toNat)) loops):=by
 have h0:x.body=0/\x.eG=0:=by
  unfold Bk.IJ at ho
  unfold Bk.xm at hb
  obtain ⟨h1,h2,_⟩:=hs
  have ho:=of_decide_eq_true ho
  have hb:=of_decide_eq_false hb
  omega
 rw [h,Af hs ho,h0.1,h0.2]
 have e1:l.take (Int.toNat 0)=[]:=rfl
 have e2:(l.drop (Int.toNat 0)).take (Int.toNat 0)=[]:=rfl
 simp only [hb,e1,e2,Co]
 unfold so
 repeat' split
 all_goals first | omega | simp_all
theorem drop_cons {α:Type} {xs:List α} {k:Nat} {x:α} (h:xs[k]? = some x):xs.drop k=x::xs.drop (k+1):=by
 obtain ⟨h1,h2⟩:=List.getElem?_eq_some_iff.1 h
 rw [List.drop_eq_getElem_cons h1,h2]
theorem uR {α:Type} (xs:List α) {a b c n:Nat} (h:b=a+n) (hc:c=a):(xs.take b).drop c=(xs.drop a).take n:=by
 subst h hc; rw [List.drop_take,Nat.add_sub_cancel_left]
def ahc:List ByteArray:=[⟨#[]⟩,⟨#[114,101]⟩,⟨#[114,110]⟩,⟨#[110,101]⟩,⟨#[114,110,101,102]⟩,⟨#[110]⟩,⟨#[110]⟩,⟨#[]⟩,⟨#[]⟩,⟨#[110]⟩,⟨#[110]⟩,⟨#[101,98]⟩,⟨#[107,98]⟩,⟨#[]⟩,⟨#[101]⟩]
def fP (k:Int):ByteArray:=if k<1\/14<k then ⟨#[]⟩ else ahc.getD k.toNat ⟨#[]⟩
def dU (s:ByteArray) (c:Int):Bool:=(oR s).any λ b=>decide ((b.toNat:Int)=c)
def nS (x:aX):Bool:=
 !(decide (x.kind<1) || decide (14<x.kind) || decide (x.at_<0) || decide (4000<x.at_)) &&
 !((dU (fP x.kind) 114 != gh x.eB) || (!dU (fP x.kind) 114 && decide (¬ x.eB=⟨#[]⟩)) || (dU (fP x.kind) 110 != gh x.name) || (!dU (fP x.kind) 110 && decide (¬ x.name=⟨#[]⟩))) &&
 !((dU (fP x.kind) 101 != eF x.e) || (!dU (fP x.kind) 101 && decide (0<x.e.length)) || (dU (fP x.kind) 102 != eF x.f) || (!dU (fP x.kind) 102 && decide (0<x.f.length))) &&
 (if dU (fP x.kind) 107=true then decide (1<=x.n/\x.n<=8) else decide (x.n=0))
def mQ (l:List aX):Bool:=decide (l.length<=40) && !l.any (λ x=>!nS x) && decide (0<=eJ l 0/\eJ l 0<=12)
def mh (n:Int):Bool:=decide (0<=n/\n<=4000)
def lx (yL:Int) (c:bP):Bool:=!gh c.name || decide (c.n<0) || decide (yL<c.n) || !mh c.at_
def mR (yL:Int) (l:List bP):Bool:=!l.any (lx yL)
def D3 (nb:Bool) (t:bV):Bool:=(nb != gh t.name) || (!nb && decide (¬ t.name=⟨#[]⟩)) || !mh t.at_ || !mQ t.body
def ly (nb:Bool) (t:bV):Bool:=D3 nb t || t.cW.any (λ s=>!gh s)
def v7 (nb:Bool) (l:List bV):Bool:=!l.any (ly nb)
def nw (l:List bP):Bool:=decide ((l.length:Int)=0) || !mR 4294967296 l
def lz (c:gO):Bool:=!mh c.at_ || !eF c.e
def jU (p:bQ):Bool:=!p.lines.any nw && !p.dF.any lz && (mR 4294967296 p.fr && mR 0 p.dL && v7 true p.threads && v7 false p.recover && decide (p.recover.length<=1))
def SzS (x:aX):Prop:=x.eB.size<=1048576/\x.name.size<=1048576/\x.e.length<=1048576/\x.f.length<=1048576/\(∀ y∈x.e,y.name.size<=1048576)/\(∀ y∈x.f,y.name.size<=1048576)
def NH (t:bV):Prop:=t.name.size<=1048576/\(∀ s∈t.cW,s.size<=1048576)/\(∀ x∈t.body,SzS x)
structure PZ (p:bQ):Prop extends PS p where
 zl:∀ l∈p.lines,∀ c∈l,c.name.size<=1048576
 zv:∀ c∈p.fr,c.name.size<=1048576
 zk:∀ c∈p.dL,c.name.size<=1048576
 zt:∀ t∈p.threads,NH t
 zr:∀ t∈p.recover,NH t
 zc:∀ c∈p.dF,c.e.length<=1048576/\∀ y∈c.e,y.name.size<=1048576
variable (w:World) (K:Value->World->Prop)
def S161 (c0:Value):Prop:=
 cE (λ K1=>bB .geq 5 c0 (.int .u8 97) λ a=>cV a (bB .leq 5 c0 (.int .u8 122) λ b=>cV b (K1 tt w) (bB .eql 5 c0 (.int .u8 95) λ c=>K1 c w)) (bB .eql 5 c0 (.int .u8 95) λ d=>
 K1 d w)) (λ e f=>∀ _:Env,
 K e f)
theorem V5 (c0:Value) (h:S161 w K c0):CR 161 [c0] w K:=
 eN 13 (λ _=>.nil) 4 [.tmp 2] Tryz.func161 h
def S165 (c0:Value):Prop:=
 cE (λ K1=>bB .geq 5 c0 (.int .u8 48) λ a=>cV a (bB .leq 5 c0 (.int .u8 57) λ b=>K1 b w) (K1 ff w)) (λ c d=>∀ _:Env,
 K c d)
theorem V6 (c0:Value) (h:S165 w K c0):CR 165 [c0] w K:=
 eN 9 (λ _=>.nil) 4 [.tmp 2] Tryz.func165 h
def S163 (s0 so1:Value):Prop:=
 fh (λ K1 n5 a=>∀ _:Env,
 cE (λ K2=>lN 9 s0 λ b=>bA .lss 3 n5 b λ c=>cV c (cU Tryz.prog (Instr.index 9 s0 n5) λ d=>eg Tryz.prog so1 [d] a λ e f=>K2 e f) (K2 ff a)) (λ g h=>∀ _:Env,
 cV g (bB .add 3 n5 (i 1) λ j=>K1 j h) (K n5 h))) (λ K1=>K1 (i 0) w)
theorem V7 (s0 so1:Value) (h:S163 w K s0 so1):CR 163 [s0,so1] w K:=
 eN 20 (λ _=>.nil) 16 [.tmp 4] Tryz.func163 h
def S164 (c0:Value):Prop:=
 cE (λ K1=>cF 161 [c0] w λ a b=>cV a (K1 tt b) (cF 165 [c0] b λ c d=>K1 c d)) (λ e f=>∀ _:Env,
 K e f)
theorem V8 (c0:Value) (h:S164 w K c0):CR 164 [c0] w K:=
 eN 9 (λ _=>.nil) 4 [.tmp 2] Tryz.func164 h
def S162 (s0:Value):Prop:=
 cF 198 [] w λ a b=>q7 Tryz.prog (Instr.lookup 281 a s0 false) b λ c=>K c b
theorem V9 (s0:Value) (h:S162 w K s0):CR 162 [s0] w K:=
 eN 6 (λ _=>.nil) 4 [.tmp 2] Tryz.func162 h
def S118 (s0:Value):Prop:=
 cE (λ K1=>cU Tryz.prog (fL .eql 9 false true s0 (Go.Value.string (ByteArray.mk (#[])))) λ a=>cV a (K1 tt w) (lN 9 s0 λ b=>bB .gtr 3 b (i 16) λ c=>cV c (K1 tt w) (
 cU Tryz.prog (Instr.index 9 s0 (i 0)) λ d=>cF 161 [d] w λ e f=>cU Tryz.prog (Op.unary .not e) λ g=>cV g (K1 tt f) (cF 162 [s0] f λ h j=>K1 h j)))) (λ k l=>∀ _:Env,
 cV k (K ff l) (cF 163 [s0,(.func (.func 164) #[] #[])] l λ n o=>lN 9 s0 λ p=>bA .eql 3 n p λ q=>K q o))
theorem Wa (s0:Value) (h:S118 w K s0):CR 118 [s0] w K:=
 eN 25 (λ _=>.nil) 4 [.tmp 2] Tryz.func118 h
def S204 (yX:Value):Prop:=
 cE (λ K1=>bB .eql 3 yX (i 1) λ a=>cV a (K1 tt w) (bB .eql 3 yX (i 2) λ b=>K1 b w)) (λ c d=>∀ _:Env,
 cV c (K (i 0) d) (cE (λ K2=>bB .eql 3 yX (i 3) λ e=>cV e (K2 tt d) (bB .eql 3 yX (i 4) λ f=>K2 f d)) (λ g h=>∀ _:Env,
 cV g (K (i 1) h) (cE (λ K3=>bB .geq 3 yX (i 5) λ j=>cV j (bB .leq 3 yX (i 15) λ k=>K3 k h) (K3 ff h)) (λ l n=>∀ _:Env,
 cV l (K (i 2) n) (K (i (-1)) n))))))
theorem Wb (yX:Value) (h:S204 w K yX):CR 204 [yX] w K:=
 eN 24 (λ _=>.nil) 4 [.tmp 2] Tryz.func204 h
def S170 (a:Value):Prop:=
 gd Tryz.prog (Instr.box 26 a) w λ b c=>cE (λ K1=>fA 26 b 3 λ d=>lA 3 d c λ e=>bB .lss 3 e (i 0) λ f=>cV f (K1 tt c) (fA 26 b 3 λ g=>lA 3 g c λ h=>bB .gtr 3 h (i 4000) λ j=>
 K1 j c)) (λ k l=>∀ _:Env,
 cV k (K ff l) (fA 26 b 0 λ n=>lA 3 n l λ o=>bB .eql 3 o (i 1) λ p=>cV p (cE (λ K2=>fA 26 b 1 λ q=>lA 3 q l λ r=>bB .geq 3 r (i 0) λ s=>cV s (fA 26 b 1 λ t=>
 lA 3 t l λ u=>bB .leq 3 u (i 4294967296) λ v=>cV v (fA 26 b 2 λ x=>lA 9 x l λ y=>cU Tryz.prog (fL .eql 9 false true y (Go.Value.string (ByteArray.mk (#[])))) λ z=>
 K2 z l) (K2 ff l)) (K2 ff l)) (λ aa ab=>∀ _:Env,
 K aa ab)) (fA 26 b 0 λ ac=>lA 3 ac l λ ad=>bB .eql 3 ad (i 2) λ ae=>cV ae (cE (λ K3=>fA 26 b 1 λ af=>lA 3 af l λ ag=>bB .eql 3 ag (i 0) λ ah=>cV ah (fA 26 b 2 λ ai=>
 lA 9 ai l λ aj=>cF 118 [aj] l λ ak al=>K3 ak al) (K3 ff l)) (λ am an=>∀ _:Env,
 K am an)) (cE (λ K4=>fA 26 b 1 λ ao=>lA 3 ao l λ ap=>bB .eql 3 ap (i 0) λ aq=>cV aq (fA 26 b 2 λ ar=>lA 9 ar l λ asx=>cU Tryz.prog (fL .eql 9 false true asx (Go.Value.string (ByteArray.mk (#[])))) λ au=>
 K4 au l) (K4 ff l)) (λ av aw=>∀ _:Env,
 K av aw)))))
theorem Wc (x0:Value) (h:S170 w K x0):CR 170 [x0] w K:=
 eN 49 (λ _=>.nil) 4 [.tmp 2] Tryz.func170 h
def S169 (a:Value):Prop:=
 gd Tryz.prog (Instr.box 26 a) w λ b c=>lA 26 b c λ d=>cF 170 [d] c λ e f=>cU Tryz.prog (Op.unary .not e) λ g=>K g f
theorem Wd (x0:Value) (h:S169 w K x0):CR 169 [x0] w K:=
 eN 6 (λ _=>.nil) 4 [.tmp 2] Tryz.func169 h
def S172 (l0 i1:Value):Prop:=
 mn (λ K1 NI Z9 a=>∀ _:Env,
 bB .gtr 3 Z9 (i 0) λ b=>cV b (cE (λ K2=>bB .lss 3 NI (i 0) λ c=>cV c (K2 tt a) (lN 22 l0 λ d=>bA .geq 3 NI d λ e=>cV e (K2 tt a) (iA 22 l0 NI λ f=>fA 26 f 0 λ g=>
 lA 3 g a λ h=>cF 204 [h] a λ j k=>bB .eql 3 j (i (-1)) λ l=>K2 l k))) (λ n o=>∀ _:Env,
 cV n (K (i (-1)) o) (iA 22 l0 NI λ p=>fA 26 p 0 λ q=>lA 3 q o λ r=>cF 204 [r] o λ s t=>bA .add 3 Z9 s λ u=>bB .add 3 NI (i 1) λ v=>bB .sub 3 u (i 1) λ x=>
 K1 v x t))) (K NI a)) (λ K1=>K1 i1 (i 1) w)
theorem We (l0 i1:Value) (h:S172 w K l0 i1):CR 172 [l0,i1] w K:=
 eN 38 (λ _=>.nil) 16 [.tmp 4] Tryz.func172 h
def S205 (l0 i1:Value):Prop:=
 bB .add 3 i1 (i 1) λ a=>iA 22 l0 i1 λ b=>fA 26 b 0 λ c=>lA 3 c w λ d=>cF 204 [d] w λ e f=>KT (λ K1 Q2 at6 g h=>∀ _:Env,
 bA .lss 3 g e λ j=>cV j (bS 45 1 [(0,at6)] h λ k l=>aP 45 Q2 k l λ n o=>cF 172 [l0,at6] o λ p q=>bB .add 3 g (i 1) λ r=>K1 n p r q) (K Q2 h)) (λ K1=>K1 (.slice none 0 0) a (i 0) f)
theorem Wf (l0 i1:Value) (h:S205 w K l0 i1):CR 205 [l0,i1] w K:=
 eN 26 (λ _=>.nil) 16 [.tmp 4] Tryz.func205 h
def S173 (l0 i1:Value):Prop:=
 cF 205 [l0,i1] w λ a b=>lN 45 a λ c=>mn (λ K1 n5 d e=>∀ _:Env,
 bA .lss 3 d c λ f=>cV f (iA 45 a d λ g=>lA 3 g e λ h=>cF 173 [l0,h] e λ j k=>cU Tryz.prog (Builtin.max_ #[3,3] 3 [n5,j].toArray) λ l=>bB .add 3 d (i 1) λ n=>
 K1 l n k) (bB .add 3 n5 (i 1) λ o=>K o e)) (λ K1=>K1 (i 0) (i 0) b)
theorem Wg (l0 i1:Value) (h:S173 w K l0 i1):CR 173 [l0,i1] w K:=
 eN 24 (λ _=>.nil) 16 [.tmp 4] Tryz.func173 h
def S123 (l0:Value):Prop:=
 cE (λ K1=>lN 22 l0 λ a=>bB .eql 3 a (i 0) λ b=>cV b (K1 tt w) (lN 22 l0 λ c=>bB .gtr 3 c (i 40) λ d=>cV d (K1 tt w) (cF 171 [l0,(.func (.func 169) #[] #[])] w λ e f=>
 cV e (K1 tt f) (cF 172 [l0,(i 0)] f λ g h=>lN 22 l0 λ j=>bA .neq 3 g j λ k=>K1 k h)))) (λ l n=>∀ _:Env,
 cV l (K ff n) (cF 173 [l0,(i 0)] n λ o p=>bB .leq 3 o (i 12) λ q=>K q p))
theorem Wh (l0:Value) (h:S123 w K l0):CR 123 [l0] w K:=
 eN 27 (λ _=>.nil) 4 [.tmp 2] Tryz.func123 h
def S187 (l0:Value):Prop:=
 cF 123 [l0] w λ a b=>cU Tryz.prog (Op.unary .not a) λ c=>cV c (K (.slice none 0 0) b) (lN 22 l0 λ d=>mn (λ K1 fp e f=>∀ _:Env,
 bA .lss 3 e d λ g=>cV g (cE (λ K2=>iA 22 l0 e λ h=>lA 26 h f λ j=>aL 26 f λ k l=>sA 26 k j l λ n=>cE (λ K3=>fA 26 k 0 λ o=>lA 3 o n λ p=>bB .eql 3 p (i 2) λ q=>
 cV q (fA 26 k 2 λ r=>lA 9 r n λ s=>cF 186 [fp,s] n λ t u=>cU Tryz.prog (Op.unary .not t) λ v=>K3 v u) (K3 ff n)) (λ x y=>∀ _:Env,
 cV x (fA 26 k 2 λ z=>lA 9 z y λ aa=>bS 32 1 [(0,aa)] y λ ab ac=>aP 32 fp ab ac λ ad ae=>K2 ad ae) (K2 fp y))) (λ mL af=>∀ _:Env,
 bB .add 3 e (i 1) λ ag=>K1 mL ag af)) (K fp f)) (λ K1=>K1 (.slice none 0 0) (i 0) b))
theorem Wi (l0:Value) (h:S187 w K l0):CR 187 [l0] w K:=
 eN 32 (λ _=>.nil) 4 [.tmp 2] Tryz.func187 h
def S188 (l0 i1 Ag:Value):Prop:=
 bB .add 3 i1 (i 1) λ a=>iA 22 l0 i1 λ b=>fA 26 b 0 λ c=>lA 3 c w λ d=>cF 190 [d] w λ e f=>KT (λ K1 NJ at8 g h=>∀ _:Env,
 bA .lss 3 g e λ j=>cV j (cF 188 [l0,at8,Ag] h λ k l=>aP 233 NJ k l λ n o=>cF 172 [l0,at8] o λ p q=>bB .add 3 g (i 1) λ r=>K1 n p r q) (iA 22 l0 i1 λ s=>
 fA 26 s 0 λ t=>lA 3 t (drew h) λ u=>iA 22 l0 i1 λ v=>fA 26 v 1 λ x=>lA 3 x (drew h) λ y=>cU Tryz.prog (Instr.build 274 [(0,u),(1,y)].toArray) λ z=>aL 274 (drew h) λ aa ab=>
 kA 3 t u ab (kA 3 x y ab (sA 274 aa z ab λ ac=>rI (λ K2=>fA 274 aa 0 λ ad=>lA 3 ad ac λ ae=>bB .eql 3 ae (i 2) λ af=>cV af (iA 22 l0 i1 λ ag=>fA 26 ag 2 λ ah=>
 lA 9 ah ac λ ai=>cF 138 [Ag,ai] ac λ aj ak=>fA 274 aa 1 λ al=>sA 3 al aj ak λ am=>K2 am) (K2 ac)) (λ an=>∀ _:Env,
 lA 274 aa an λ ao=>bS 233 1 [(0,ao)] an λ ap aq=>aP 233 NJ ap aq λ ar asx=>K ar asx))))) (λ K1=>K1 (.slice none 0 0) a (i 0) f)
def anG:eh:=λ i=>match i with
 | 8=>(.of [(0,[]),(1,[]),(2,[]),(3,[]),(4,[]),(5,[]),(6,[]),(7,[]),(8,[]),(9,[]),(10,[]),(11,[4,9]),(12,[])])
 | _=>.nil
theorem Wj (l0 i1 Ag:Value) (h:S188 w K l0 i1 Ag):CR 188 [l0,i1,Ag] w K:=
 eN 56 anG 64 [.tmp 6] Tryz.func188 h
def S153 (l0 oT:Value):Prop:=
 gd Tryz.prog (Instr.box 32 oT) w λ Q3 a=>cF 123 [l0] a λ b c=>cU Tryz.prog (Op.unary .not b) λ d=>cV d (K (.tuple #[(.slice none 0 0),(i 8)]) c) (cF 187 [l0] c λ e f=>
 cF 167 [e,(.func (Go.Fn.func 185) [].toArray [Q3].toArray)] f λ g h=>cV g (K (.tuple #[(.slice none 0 0),(i 9)]) h) (lA 32 Q3 h λ j=>cF 188 [l0,(i 0),j] h λ k l=>
 K (.tuple #[k,(i 0)]) l))
theorem Wk (l0 oT:Value) (h:S153 w K l0 oT):CR 153 [l0,oT] w K:=
 eN 18 (λ _=>.nil) 48 [.tmp 4,.tmp 5] Tryz.func153 h
def S185 (s0 a:Value):Prop:=
 lA 32 a w λ b=>cF 186 [b,s0] w λ c d=>cU Tryz.prog (Op.unary .not c) λ e=>K e d
theorem Wl (s0 x1:Value) (h:S185 w K s0 x1):CR 185 [s0,x1] w K:=
 eN 8 (λ _=>.nil) 8 [.tmp 3] Tryz.func185 h
def S99 (l0 oT Gc:Value):Prop:=
 lN 32 oT λ a=>lN 45 Gc λ b=>bA .neq 3 a b λ c=>cV c (K (.tuple #[(i 0),(i 1)]) w) (cF 153 [l0,oT] w λ d e=>xT d 0 λ f=>xT d 1 λ g=>bB .neq 29 g (i 0) λ h=>
 cV h (K (.tuple #[(i 0),g]) e) (cF 154 [f,Gc] e λ j k=>xT j 0 λ l=>xT j 1 λ n=>K (.tuple #[l,n]) k))
theorem acg (l0 oT Gc:Value) (h:S99 w K l0 oT Gc):CR 99 [l0,oT,Gc] w K:=
 eN 29 (λ _=>.nil) 192 [.tmp 6,.tmp 7] Tryz.func99 h
def S171 (s0 f1:Value):Prop:=
 cF 203 [s0,f1] w λ a b=>bB .geq 3 a (i 0) λ c=>K c b
theorem Wm (s0 f1:Value) (h:S171 w K s0 f1):CR 171 [s0,f1] w K:=
 eN 9 (λ _=>.nil) 16 [.tmp 4] Tryz.func171 h
def S203 (s0 f1:Value):Prop:=
 lN 22 s0 λ a=>fh (λ K1 b c=>∀ _:Env,
 bA .lss 3 b a λ d=>cV d (iA 22 s0 b λ e=>lA 26 e c λ f=>eg Tryz.prog f1 [f] c λ g h=>cV g (K b h) (bB .add 3 b (i 1) λ j=>K1 j h)) (K (i (-1)) c)) (λ K1=>K1 (i 0) w)
theorem Wn (s0 f1:Value) (h:S203 w K s0 f1):CR 203 [s0,f1] w K:=
 eN 19 (λ _=>.nil) 16 [.tmp 4] Tryz.func203 h
def S167 (s0 f1:Value):Prop:=
 cF 199 [s0,f1] w λ a b=>bB .geq 3 a (i 0) λ c=>K c b
theorem Wo (s0 f1:Value) (h:S167 w K s0 f1):CR 167 [s0,f1] w K:=
 eN 9 (λ _=>.nil) 16 [.tmp 4] Tryz.func167 h
def S199 (s0 f1:Value):Prop:=
 lN 32 s0 λ a=>fh (λ K1 b c=>∀ _:Env,
 bA .lss 3 b a λ d=>cV d (iA 32 s0 b λ e=>lA 9 e c λ f=>eg Tryz.prog f1 [f] c λ g h=>cV g (K b h) (bB .add 3 b (i 1) λ j=>K1 j h)) (K (i (-1)) c)) (λ K1=>K1 (i 0) w)
theorem Wp (s0 f1:Value) (h:S199 w K s0 f1):CR 199 [s0,f1] w K:=
 eN 19 (λ _=>.nil) 16 [.tmp 4] Tryz.func199 h
def S186 (s0 v1:Value):Prop:=
 cF 138 [s0,v1] w λ a b=>bB .geq 3 a (i 0) λ c=>K c b
theorem Wq (s0 v1:Value) (h:S186 w K s0 v1):CR 186 [s0,v1] w K:=
 eN 9 (λ _=>.nil) 16 [.tmp 4] Tryz.func186 h
def S138 (s0 v1:Value):Prop:=
 lN 32 s0 λ a=>fh (λ K1 b c=>∀ _:Env,
 bA .lss 3 b a λ d=>cV d (iA 32 s0 b λ e=>lA 9 e c λ f=>bA .eql 9 v1 f λ g=>cV g (K b c) (bB .add 3 b (i 1) λ h=>K1 h c)) (K (i (-1)) c)) (λ K1=>K1 (i 0) w)
theorem Wr (s0 v1:Value) (h:S138 w K s0 v1):CR 138 [s0,v1] w K:=
 eN 19 (λ _=>.nil) 16 [.tmp 4] Tryz.func138 h
theorem aaa:PL 161:=dW Tryz.func161
theorem ahf:PL 165:=dW Tryz.func165
theorem ahg:PL 163:=dW Tryz.func163
theorem ahh:PL 164:=dW Tryz.func164
theorem ahi:PL 162:=dW Tryz.func162
theorem Gd:PL 118:=dW Tryz.func118
theorem Q4:PL 204:=dW Tryz.func204
theorem ahj:PL 170:=dW Tryz.func170
theorem ahk:PL 169:=dW Tryz.func169
theorem Q5:PL 172:=dW Tryz.func172
theorem ahl:PL 205:=dW Tryz.func205
theorem aab:PL 173:=dW Tryz.func173
theorem LC:PL 123:=dW Tryz.func123
theorem ahm:PL 187:=dW Tryz.func187
theorem aac:PL 188:=dW Tryz.func188
theorem ahn:PL 153:=dW Tryz.func153
theorem aho:PL 185:=dW Tryz.func185
theorem anH:PL 99:=dW Tryz.func99
theorem ahp:PL 171:=dW Tryz.func171
theorem ahq:PL 203:=dW Tryz.func203
theorem aad:PL 167:=dW Tryz.func167
theorem ahr:PL 199:=dW Tryz.func199
theorem aae:PL 186:=dW Tryz.func186
theorem Q6:PL 138:=dW Tryz.func138
end Go.Proofs.YtfkgkbhbdffckaaGreatDoor
namespace Go.Proofs.YtfkgkbhbdffckaaGreatDoor
open Go.Fw
theorem Jm (a0:Int) (a1:Int):pr Tryz.prog (Instr.build 274 [(0,.int .i64 a0),(1,.int .i64 a1)].toArray)=some (.agg [.int .i64 a0,.int .i64 a1].toArray):=by kernel_rfl
end Go.Proofs.YtfkgkbhbdffckaaGreatDoor
