/- ref13.roles, walked. Conditions: none. -/
import Derived.Test.YtkpjdanfpolimaaGreatLcRole1
import Derived.Test.YtkpjdanfpolimaaGreatLcRole2
import Derived.Test.YtkpjdanfpolimaaGreatLcRole3
set_option maxRecDepth 100000
set_option maxHeartbeats 1600000
namespace Go.Proofs.YtkpjdanfpolimaaGreat
open Go.RowKit
theorem role_lo (op:Int) (h:op<0) (w:World):Calls Tryz.prog 95 #[.int .i64 op] w (Ret (.string ⟨(roleF op).toArray⟩) w):=by
 have h1:(op == 1)=false:=by simp; omega
 have h2:(op == 2)=false:=by simp; omega
 have h3:(op == 3)=false:=by simp; omega
 have h4:(op == 4)=false:=by simp; omega
 have h5:(op == 5)=false:=by simp; omega
 have h6:(op == 6)=false:=by simp; omega
 have h7:(op == 7)=false:=by simp; omega
 have h8:(op == 8)=false:=by simp; omega
 have h9:(op == 9)=false:=by simp; omega
 have h10:(op == 10)=false:=by simp; omega
 have h11:(op == 11)=false:=by simp; omega
 have h12:(op == 12)=false:=by simp; omega
 have h13:(op == 13)=false:=by simp; omega
 have h14:(op == 14)=false:=by simp; omega
 have h15:(op == 15)=false:=by simp; omega
 have h16:(op == 16)=false:=by simp; omega
 have h17:(op == 17)=false:=by simp; omega
 have h18:(op == 18)=false:=by simp; omega
 have h19:(op == 19)=false:=by simp; omega
 have h20:(op == 20)=false:=by simp; omega
 have h21:(op == 21)=false:=by simp; omega
 have h30:(op == 30)=false:=by simp; omega
 have h31:(op == 31)=false:=by simp; omega
 have h32:(op == 32)=false:=by simp; omega
 have h33:(op == 33)=false:=by simp; omega
 have h34:(op == 34)=false:=by simp; omega
 have h35:(op == 35)=false:=by simp; omega
 have h36:(op == 36)=false:=by simp; omega
 have h37:(op == 37)=false:=by simp; omega
 have h38:(op == 38)=false:=by simp; omega
 have h39:(op == 39)=false:=by simp; omega
 have h40:(op == 40)=false:=by simp; omega
 have h41:(op == 41)=false:=by simp; omega
 have h42:(op == 42)=false:=by simp; omega
 have h43:(op == 43)=false:=by simp; omega
 have h50:(op == 50)=false:=by simp; omega
 have h51:(op == 51)=false:=by simp; omega
 have h52:(op == 52)=false:=by simp; omega
 have h53:(op == 53)=false:=by simp; omega
 have h54:(op == 54)=false:=by simp; omega
 have h55:(op == 55)=false:=by simp; omega
 have h56:(op == 56)=false:=by simp; omega
 have h57:(op == 57)=false:=by simp; omega
 have h58:(op == 58)=false:=by simp; omega
 have h59:(op == 59)=false:=by simp; omega
 have h60:(op == 60)=false:=by simp; omega
 have h61:(op == 61)=false:=by simp; omega
 have h62:(op == 62)=false:=by simp; omega
 have h63:(op == 63)=false:=by simp; omega
 have h64:(op == 64)=false:=by simp; omega
 have h65:(op == 65)=false:=by simp; omega
 have h66:(op == 66)=false:=by simp; omega
 have h67:(op == 67)=false:=by simp; omega
 have h68:(op == 68)=false:=by simp; omega
 have h69:(op == 69)=false:=by simp; omega
 have h70:(op == 70)=false:=by simp; omega
 have h71:(op == 71)=false:=by simp; omega
 have h72:(op == 72)=false:=by simp; omega
 have h73:(op == 73)=false:=by simp; omega
 have h74:(op == 74)=false:=by simp; omega
 have h75:(op == 75)=false:=by simp; omega
 have g3:decide (3≤op)=false:=by simp; omega
 have g37:decide (37≤op)=false:=by simp; omega
 have g53:decide (53≤op)=false:=by simp; omega
 have g57:decide (57≤op)=false:=by simp; omega
 have l11:decide (op≤11)=true:=by simp; omega
 have l39:decide (op≤39)=true:=by simp; omega
 have l56:decide (op≤56)=true:=by simp; omega
 have l59:decide (op≤59)=true:=by simp; omega
 have hn:look roleTab op=none:=by simp only [look,roleTab,List.find?,h1,h2,h3,h4,h5,h6,h7,h8,h9,h10,h11,h12,h13,h14,h15,h16,h17,h18,h19,h20,h21,h30,h31,h32,h33,h34,h35,h36,h37,h38,h39,h40,h41,h42,h43,h50,h51,h52,h53,h54,h55,h56,h57,h58,h59,h60,h61,h62,h63,h64,h65,h66,h67,h68,h69,h70,h71,h72,h73,h74]; rfl
 rw [roleF,hn];clear hn h;go_enter Tryz.func95,Tryz.ntmps95;go_wp2_with fail;go_ret;exact ⟨rfl,Below.refl _ _⟩
theorem role_hi (op:Int) (h:75<op) (w:World):Calls Tryz.prog 95 #[.int .i64 op] w (Ret (.string ⟨(roleF op).toArray⟩) w):=by
 have h1:(op == 1)=false:=by simp; omega
 have h2:(op == 2)=false:=by simp; omega
 have h3:(op == 3)=false:=by simp; omega
 have h4:(op == 4)=false:=by simp; omega
 have h5:(op == 5)=false:=by simp; omega
 have h6:(op == 6)=false:=by simp; omega
 have h7:(op == 7)=false:=by simp; omega
 have h8:(op == 8)=false:=by simp; omega
 have h9:(op == 9)=false:=by simp; omega
 have h10:(op == 10)=false:=by simp; omega
 have h11:(op == 11)=false:=by simp; omega
 have h12:(op == 12)=false:=by simp; omega
 have h13:(op == 13)=false:=by simp; omega
 have h14:(op == 14)=false:=by simp; omega
 have h15:(op == 15)=false:=by simp; omega
 have h16:(op == 16)=false:=by simp; omega
 have h17:(op == 17)=false:=by simp; omega
 have h18:(op == 18)=false:=by simp; omega
 have h19:(op == 19)=false:=by simp; omega
 have h20:(op == 20)=false:=by simp; omega
 have h21:(op == 21)=false:=by simp; omega
 have h30:(op == 30)=false:=by simp; omega
 have h31:(op == 31)=false:=by simp; omega
 have h32:(op == 32)=false:=by simp; omega
 have h33:(op == 33)=false:=by simp; omega
 have h34:(op == 34)=false:=by simp; omega
 have h35:(op == 35)=false:=by simp; omega
 have h36:(op == 36)=false:=by simp; omega
 have h37:(op == 37)=false:=by simp; omega
 have h38:(op == 38)=false:=by simp; omega
 have h39:(op == 39)=false:=by simp; omega
 have h40:(op == 40)=false:=by simp; omega
 have h41:(op == 41)=false:=by simp; omega
 have h42:(op == 42)=false:=by simp; omega
 have h43:(op == 43)=false:=by simp; omega
 have h50:(op == 50)=false:=by simp; omega
 have h51:(op == 51)=false:=by simp; omega
 have h52:(op == 52)=false:=by simp; omega
 have h53:(op == 53)=false:=by simp; omega
 have h54:(op == 54)=false:=by simp; omega
 have h55:(op == 55)=false:=by simp; omega
 have h56:(op == 56)=false:=by simp; omega
 have h57:(op == 57)=false:=by simp; omega
 have h58:(op == 58)=false:=by simp; omega
 have h59:(op == 59)=false:=by simp; omega
 have h60:(op == 60)=false:=by simp; omega
 have h61:(op == 61)=false:=by simp; omega
 have h62:(op == 62)=false:=by simp; omega
 have h63:(op == 63)=false:=by simp; omega
 have h64:(op == 64)=false:=by simp; omega
 have h65:(op == 65)=false:=by simp; omega
 have h66:(op == 66)=false:=by simp; omega
 have h67:(op == 67)=false:=by simp; omega
 have h68:(op == 68)=false:=by simp; omega
 have h69:(op == 69)=false:=by simp; omega
 have h70:(op == 70)=false:=by simp; omega
 have h71:(op == 71)=false:=by simp; omega
 have h72:(op == 72)=false:=by simp; omega
 have h73:(op == 73)=false:=by simp; omega
 have h74:(op == 74)=false:=by simp; omega
 have h75:(op == 75)=false:=by simp; omega
 have g3:decide (3≤op)=true:=by simp; omega
 have g37:decide (37≤op)=true:=by simp; omega
 have g53:decide (53≤op)=true:=by simp; omega
 have g57:decide (57≤op)=true:=by simp; omega
 have l11:decide (op≤11)=false:=by simp; omega
 have l39:decide (op≤39)=false:=by simp; omega
 have l56:decide (op≤56)=false:=by simp; omega
 have l59:decide (op≤59)=false:=by simp; omega
 have hn:look roleTab op=none:=by simp only [look,roleTab,List.find?,h1,h2,h3,h4,h5,h6,h7,h8,h9,h10,h11,h12,h13,h14,h15,h16,h17,h18,h19,h20,h21,h30,h31,h32,h33,h34,h35,h36,h37,h38,h39,h40,h41,h42,h43,h50,h51,h52,h53,h54,h55,h56,h57,h58,h59,h60,h61,h62,h63,h64,h65,h66,h67,h68,h69,h70,h71,h72,h73,h74]; rfl
 rw [roleF,hn];clear hn h;go_enter Tryz.func95,Tryz.ntmps95;go_wp2_with fail;go_ret;exact ⟨rfl,Below.refl _ _⟩
theorem role_any (op:Int) (w:World):Calls Tryz.prog 95 #[.int .i64 op] w (Ret (.string ⟨(roleF op).toArray⟩) w):=by
 by_cases h0:op=0
 ·subst h0; exact role_0 w
 by_cases h1:op=1
 ·subst h1; exact role_1 w
 by_cases h2:op=2
 ·subst h2; exact role_2 w
 by_cases h3:op=3
 ·subst h3; exact role_3 w
 by_cases h4:op=4
 ·subst h4; exact role_4 w
 by_cases h5:op=5
 ·subst h5; exact role_5 w
 by_cases h6:op=6
 ·subst h6; exact role_6 w
 by_cases h7:op=7
 ·subst h7; exact role_7 w
 by_cases h8:op=8
 ·subst h8; exact role_8 w
 by_cases h9:op=9
 ·subst h9; exact role_9 w
 by_cases h10:op=10
 ·subst h10; exact role_10 w
 by_cases h11:op=11
 ·subst h11; exact role_11 w
 by_cases h12:op=12
 ·subst h12; exact role_12 w
 by_cases h13:op=13
 ·subst h13; exact role_13 w
 by_cases h14:op=14
 ·subst h14; exact role_14 w
 by_cases h15:op=15
 ·subst h15; exact role_15 w
 by_cases h16:op=16
 ·subst h16; exact role_16 w
 by_cases h17:op=17
 ·subst h17; exact role_17 w
 by_cases h18:op=18
 ·subst h18; exact role_18 w
 by_cases h19:op=19
 ·subst h19; exact role_19 w
 by_cases h20:op=20
 ·subst h20; exact role_20 w
 by_cases h21:op=21
 ·subst h21; exact role_21 w
 by_cases h22:op=22
 ·subst h22; exact role_22 w
 by_cases h23:op=23
 ·subst h23; exact role_23 w
 by_cases h24:op=24
 ·subst h24; exact role_24 w
 by_cases h25:op=25
 ·subst h25; exact role_25 w
 by_cases h26:op=26
 ·subst h26; exact role_26 w
 by_cases h27:op=27
 ·subst h27; exact role_27 w
 by_cases h28:op=28
 ·subst h28; exact role_28 w
 by_cases h29:op=29
 ·subst h29; exact role_29 w
 by_cases h30:op=30
 ·subst h30; exact role_30 w
 by_cases h31:op=31
 ·subst h31; exact role_31 w
 by_cases h32:op=32
 ·subst h32; exact role_32 w
 by_cases h33:op=33
 ·subst h33; exact role_33 w
 by_cases h34:op=34
 ·subst h34; exact role_34 w
 by_cases h35:op=35
 ·subst h35; exact role_35 w
 by_cases h36:op=36
 ·subst h36; exact role_36 w
 by_cases h37:op=37
 ·subst h37; exact role_37 w
 by_cases h38:op=38
 ·subst h38; exact role_38 w
 by_cases h39:op=39
 ·subst h39; exact role_39 w
 by_cases h40:op=40
 ·subst h40; exact role_40 w
 by_cases h41:op=41
 ·subst h41; exact role_41 w
 by_cases h42:op=42
 ·subst h42; exact role_42 w
 by_cases h43:op=43
 ·subst h43; exact role_43 w
 by_cases h44:op=44
 ·subst h44; exact role_44 w
 by_cases h45:op=45
 ·subst h45; exact role_45 w
 by_cases h46:op=46
 ·subst h46; exact role_46 w
 by_cases h47:op=47
 ·subst h47; exact role_47 w
 by_cases h48:op=48
 ·subst h48; exact role_48 w
 by_cases h49:op=49
 ·subst h49; exact role_49 w
 by_cases h50:op=50
 ·subst h50; exact role_50 w
 by_cases h51:op=51
 ·subst h51; exact role_51 w
 by_cases h52:op=52
 ·subst h52; exact role_52 w
 by_cases h53:op=53
 ·subst h53; exact role_53 w
 by_cases h54:op=54
 ·subst h54; exact role_54 w
 by_cases h55:op=55
 ·subst h55; exact role_55 w
 by_cases h56:op=56
 ·subst h56; exact role_56 w
 by_cases h57:op=57
 ·subst h57; exact role_57 w
 by_cases h58:op=58
 ·subst h58; exact role_58 w
 by_cases h59:op=59
 ·subst h59; exact role_59 w
 by_cases h60:op=60
 ·subst h60; exact role_60 w
 by_cases h61:op=61
 ·subst h61; exact role_61 w
 by_cases h62:op=62
 ·subst h62; exact role_62 w
 by_cases h63:op=63
 ·subst h63; exact role_63 w
 by_cases h64:op=64
 ·subst h64; exact role_64 w
 by_cases h65:op=65
 ·subst h65; exact role_65 w
 by_cases h66:op=66
 ·subst h66; exact role_66 w
 by_cases h67:op=67
 ·subst h67; exact role_67 w
 by_cases h68:op=68
 ·subst h68; exact role_68 w
 by_cases h69:op=69
 ·subst h69; exact role_69 w
 by_cases h70:op=70
 ·subst h70; exact role_70 w
 by_cases h71:op=71
 ·subst h71; exact role_71 w
 by_cases h72:op=72
 ·subst h72; exact role_72 w
 by_cases h73:op=73
 ·subst h73; exact role_73 w
 by_cases h74:op=74
 ·subst h74; exact role_74 w
 by_cases h75:op=75
 ·subst h75; exact role_75 w
 by_cases h:op<0
 ·exact role_lo op h w
 ·exact role_hi op (by omega) w
end Go.Proofs.YtkpjdanfpolimaaGreat
