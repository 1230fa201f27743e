/- Merged out of my text Ty. -/
import Derived.Test.YtjdggbanifineaaGreatProg
import Derived.Test.YtjdggbanifineaaGreatKVE
import Derived.KernelRfl
namespace Go.Proofs.YtjdggbanifineaaGreat.Ty
open Go.VL Go.Proofs
theorem mixed:Tryz.prog.follows .mixedOrders=true:=eqq (by kernel_rfl)
theorem sane:saneB Tryz.prog=true:=eqq (by kernel_rfl)
theorem ag3:tag Tryz.prog 3=some false:=eqq (by kernel_rfl)
theorem un3:Tryz.prog.underlying 3=some (.int .i64):=eqq (by kernel_rfl)
theorem un4:Tryz.prog.underlying 4=some .bool:=eqq (by kernel_rfl)
theorem ag9:tag Tryz.prog 9=some false:=eqq (by kernel_rfl)
theorem un9:Tryz.prog.underlying 9=some .string:=eqq (by kernel_rfl)
theorem ag22:tag Tryz.prog 22=some false:=eqq (by kernel_rfl)
theorem cb106:callB Tryz.prog 106=true:=eqq (by kernel_rfl)
theorem c10:callB Tryz.prog 10=true :=
 eqq (by kernel_rfl)
theorem c100:callB Tryz.prog 100=true :=
 eqq (by kernel_rfl)
theorem c101:callB Tryz.prog 101=true :=
 eqq (by kernel_rfl)
theorem c102:callB Tryz.prog 102=true :=
 eqq (by kernel_rfl)
theorem c103:callB Tryz.prog 103=true :=
 eqq (by kernel_rfl)
theorem c104:callB Tryz.prog 104=true :=
 eqq (by kernel_rfl)
theorem c105:callB Tryz.prog 105=true :=
 eqq (by kernel_rfl)
theorem c106:callB Tryz.prog 106=true :=
 cb106
theorem c107:callB Tryz.prog 107=false :=
 eqq (by kernel_rfl)
theorem c108:callB Tryz.prog 108=true :=
 eqq (by kernel_rfl)
theorem c109:callB Tryz.prog 109=true :=
 eqq (by kernel_rfl)
theorem c11:callB Tryz.prog 11=true :=
 eqq (by kernel_rfl)
theorem c110:callB Tryz.prog 110=true :=
 eqq (by kernel_rfl)
theorem c111:callB Tryz.prog 111=true :=
 eqq (by kernel_rfl)
theorem c112:callB Tryz.prog 112=true :=
 eqq (by kernel_rfl)
theorem c113:callB Tryz.prog 113=true :=
 eqq (by kernel_rfl)
theorem c114:callB Tryz.prog 114=true :=
 eqq (by kernel_rfl)
theorem c115:callB Tryz.prog 115=true :=
 eqq (by kernel_rfl)
theorem c116:callB Tryz.prog 116=true :=
 eqq (by kernel_rfl)
theorem c117:callB Tryz.prog 117=true :=
 eqq (by kernel_rfl)
theorem c118:callB Tryz.prog 118=true :=
 eqq (by kernel_rfl)
theorem c119:callB Tryz.prog 119=true :=
 eqq (by kernel_rfl)
theorem c12:callB Tryz.prog 12=true :=
 eqq (by kernel_rfl)
theorem c120:callB Tryz.prog 120=true :=
 eqq (by kernel_rfl)
theorem c121:callB Tryz.prog 121=true :=
 eqq (by kernel_rfl)
theorem c122:callB Tryz.prog 122=true :=
 eqq (by kernel_rfl)
theorem c123:callB Tryz.prog 123=true :=
 eqq (by kernel_rfl)
theorem c124:callB Tryz.prog 124=true :=
 eqq (by kernel_rfl)
theorem c125:callB Tryz.prog 125=true :=
 eqq (by kernel_rfl)
theorem c126:callB Tryz.prog 126=true :=
 eqq (by kernel_rfl)
theorem c129:callB Tryz.prog 129=true :=
 eqq (by kernel_rfl)
theorem c13:callB Tryz.prog 13=true :=
 eqq (by kernel_rfl)
theorem c130:callB Tryz.prog 130=true :=
 eqq (by kernel_rfl)
theorem c131:callB Tryz.prog 131=true :=
 eqq (by kernel_rfl)
theorem c132:callB Tryz.prog 132=true :=
 eqq (by kernel_rfl)
theorem c133:callB Tryz.prog 133=true :=
 eqq (by kernel_rfl)
theorem c135:callB Tryz.prog 135=true :=
 eqq (by kernel_rfl)
theorem c137:callB Tryz.prog 137=true :=
 eqq (by kernel_rfl)
theorem c14:callB Tryz.prog 14=true :=
 eqq (by kernel_rfl)
theorem c15:callB Tryz.prog 15=true :=
 eqq (by kernel_rfl)
theorem c154:callB Tryz.prog 154=true :=
 eqq (by kernel_rfl)
theorem c155:callB Tryz.prog 155=true :=
 eqq (by kernel_rfl)
theorem c157:callB Tryz.prog 157=false :=
 eqq (by kernel_rfl)
theorem c159:callB Tryz.prog 159=true :=
 eqq (by kernel_rfl)
theorem c16:callB Tryz.prog 16=true :=
 eqq (by kernel_rfl)
theorem c17:callB Tryz.prog 17=true :=
 eqq (by kernel_rfl)
theorem c170:callB Tryz.prog 170=true :=
 eqq (by kernel_rfl)
theorem c18:callB Tryz.prog 18=true :=
 eqq (by kernel_rfl)
theorem c19:callB Tryz.prog 19=true :=
 eqq (by kernel_rfl)
theorem c191:callB Tryz.prog 191=true :=
 eqq (by kernel_rfl)
theorem c192:callB Tryz.prog 192=true :=
 eqq (by kernel_rfl)
theorem c194:callB Tryz.prog 194=true :=
 eqq (by kernel_rfl)
theorem c195:callB Tryz.prog 195=true :=
 eqq (by kernel_rfl)
theorem c198:callB Tryz.prog 198=true :=
 eqq (by kernel_rfl)
theorem c20:callB Tryz.prog 20=true :=
 eqq (by kernel_rfl)
theorem c201:callB Tryz.prog 201=true :=
 eqq (by kernel_rfl)
theorem c202:callB Tryz.prog 202=true :=
 eqq (by kernel_rfl)
theorem c203:callB Tryz.prog 203=true :=
 eqq (by kernel_rfl)
theorem c204:callB Tryz.prog 204=true :=
 eqq (by kernel_rfl)
theorem c205:callB Tryz.prog 205=true :=
 eqq (by kernel_rfl)
theorem c206:callB Tryz.prog 206=true :=
 eqq (by kernel_rfl)
theorem c207:callB Tryz.prog 207=true :=
 eqq (by kernel_rfl)
theorem c209:callB Tryz.prog 209=true :=
 eqq (by kernel_rfl)
theorem c21:callB Tryz.prog 21=true :=
 eqq (by kernel_rfl)
theorem c211:callB Tryz.prog 211=true :=
 eqq (by kernel_rfl)
theorem c212:callB Tryz.prog 212=true :=
 eqq (by kernel_rfl)
theorem c213:callB Tryz.prog 213=true :=
 eqq (by kernel_rfl)
theorem c214:callB Tryz.prog 214=true :=
 eqq (by kernel_rfl)
theorem c215:callB Tryz.prog 215=true :=
 eqq (by kernel_rfl)
theorem c216:callB Tryz.prog 216=true :=
 eqq (by kernel_rfl)
theorem c217:callB Tryz.prog 217=true :=
 eqq (by kernel_rfl)
theorem c218:callB Tryz.prog 218=true :=
 eqq (by kernel_rfl)
theorem c219:callB Tryz.prog 219=true :=
 eqq (by kernel_rfl)
theorem c22:callB Tryz.prog 22=true :=
 eqq (by kernel_rfl)
theorem c220:callB Tryz.prog 220=false :=
 eqq (by kernel_rfl)
theorem c221:callB Tryz.prog 221=true :=
 eqq (by kernel_rfl)
theorem c23:callB Tryz.prog 23=true :=
 eqq (by kernel_rfl)
theorem c24:callB Tryz.prog 24=true :=
 eqq (by kernel_rfl)
theorem c25:callB Tryz.prog 25=true :=
 eqq (by kernel_rfl)
theorem c26:callB Tryz.prog 26=true :=
 eqq (by kernel_rfl)
theorem c27:callB Tryz.prog 27=true :=
 eqq (by kernel_rfl)
theorem c28:callB Tryz.prog 28=true :=
 eqq (by kernel_rfl)
theorem c29:callB Tryz.prog 29=true :=
 eqq (by kernel_rfl)
theorem c30:callB Tryz.prog 30=true :=
 eqq (by kernel_rfl)
theorem c31:callB Tryz.prog 31=true :=
 eqq (by kernel_rfl)
theorem c32:callB Tryz.prog 32=true :=
 eqq (by kernel_rfl)
theorem c33:callB Tryz.prog 33=true :=
 eqq (by kernel_rfl)
theorem c34:callB Tryz.prog 34=true :=
 eqq (by kernel_rfl)
theorem c35:callB Tryz.prog 35=true :=
 eqq (by kernel_rfl)
theorem c36:callB Tryz.prog 36=true :=
 eqq (by kernel_rfl)
theorem c37:callB Tryz.prog 37=true :=
 eqq (by kernel_rfl)
theorem c38:callB Tryz.prog 38=true :=
 eqq (by kernel_rfl)
theorem c39:callB Tryz.prog 39=true :=
 eqq (by kernel_rfl)
theorem c40:callB Tryz.prog 40=true :=
 eqq (by kernel_rfl)
theorem c41:callB Tryz.prog 41=true :=
 eqq (by kernel_rfl)
theorem c42:callB Tryz.prog 42=true :=
 eqq (by kernel_rfl)
theorem c43:callB Tryz.prog 43=true :=
 eqq (by kernel_rfl)
theorem c44:callB Tryz.prog 44=true :=
 eqq (by kernel_rfl)
theorem c45:callB Tryz.prog 45=true :=
 eqq (by kernel_rfl)
theorem c46:callB Tryz.prog 46=true :=
 eqq (by kernel_rfl)
theorem c47:callB Tryz.prog 47=true :=
 eqq (by kernel_rfl)
theorem c48:callB Tryz.prog 48=true :=
 eqq (by kernel_rfl)
theorem c49:callB Tryz.prog 49=true :=
 eqq (by kernel_rfl)
theorem c50:callB Tryz.prog 50=true :=
 eqq (by kernel_rfl)
theorem c51:callB Tryz.prog 51=true :=
 eqq (by kernel_rfl)
theorem c52:callB Tryz.prog 52=true :=
 eqq (by kernel_rfl)
theorem c53:callB Tryz.prog 53=true :=
 eqq (by kernel_rfl)
theorem c54:callB Tryz.prog 54=false :=
 eqq (by kernel_rfl)
theorem c55:callB Tryz.prog 55=true :=
 eqq (by kernel_rfl)
theorem c56:callB Tryz.prog 56=true :=
 eqq (by kernel_rfl)
theorem c57:callB Tryz.prog 57=true :=
 eqq (by kernel_rfl)
theorem c58:callB Tryz.prog 58=true :=
 eqq (by kernel_rfl)
theorem c59:callB Tryz.prog 59=true :=
 eqq (by kernel_rfl)
theorem c6:callB Tryz.prog 6=true :=
 eqq (by kernel_rfl)
theorem c60:callB Tryz.prog 60=true :=
 eqq (by kernel_rfl)
theorem c61:callB Tryz.prog 61=true :=
 eqq (by kernel_rfl)
theorem c62:callB Tryz.prog 62=true :=
 eqq (by kernel_rfl)
theorem c63:callB Tryz.prog 63=true :=
 eqq (by kernel_rfl)
theorem c64:callB Tryz.prog 64=true :=
 eqq (by kernel_rfl)
theorem c65:callB Tryz.prog 65=true :=
 eqq (by kernel_rfl)
theorem c66:callB Tryz.prog 66=true :=
 eqq (by kernel_rfl)
theorem c67:callB Tryz.prog 67=true :=
 eqq (by kernel_rfl)
theorem c68:callB Tryz.prog 68=true :=
 eqq (by kernel_rfl)
theorem c69:callB Tryz.prog 69=true :=
 eqq (by kernel_rfl)
theorem c7:callB Tryz.prog 7=true :=
 eqq (by kernel_rfl)
theorem c70:callB Tryz.prog 70=true :=
 eqq (by kernel_rfl)
theorem c71:callB Tryz.prog 71=true :=
 eqq (by kernel_rfl)
theorem c72:callB Tryz.prog 72=true :=
 eqq (by kernel_rfl)
theorem c73:callB Tryz.prog 73=true :=
 eqq (by kernel_rfl)
theorem c75:callB Tryz.prog 75=true :=
 eqq (by kernel_rfl)
theorem c76:callB Tryz.prog 76=true :=
 eqq (by kernel_rfl)
theorem c77:callB Tryz.prog 77=true :=
 eqq (by kernel_rfl)
theorem c78:callB Tryz.prog 78=true :=
 eqq (by kernel_rfl)
theorem c79:callB Tryz.prog 79=true :=
 eqq (by kernel_rfl)
theorem c8:callB Tryz.prog 8=true :=
 eqq (by kernel_rfl)
theorem c80:callB Tryz.prog 80=true :=
 eqq (by kernel_rfl)
theorem c81:callB Tryz.prog 81=true :=
 eqq (by kernel_rfl)
theorem c82:callB Tryz.prog 82=true :=
 eqq (by kernel_rfl)
theorem c83:callB Tryz.prog 83=true :=
 eqq (by kernel_rfl)
theorem c84:callB Tryz.prog 84=true :=
 eqq (by kernel_rfl)
theorem c85:callB Tryz.prog 85=true :=
 eqq (by kernel_rfl)
theorem c86:callB Tryz.prog 86=true :=
 eqq (by kernel_rfl)
theorem c87:callB Tryz.prog 87=true :=
 eqq (by kernel_rfl)
theorem c88:callB Tryz.prog 88=true :=
 eqq (by kernel_rfl)
theorem c89:callB Tryz.prog 89=true :=
 eqq (by kernel_rfl)
theorem c9:callB Tryz.prog 9=true :=
 eqq (by kernel_rfl)
theorem c90:callB Tryz.prog 90=true :=
 eqq (by kernel_rfl)
theorem c91:callB Tryz.prog 91=true :=
 eqq (by kernel_rfl)
theorem c92:callB Tryz.prog 92=true :=
 eqq (by kernel_rfl)
theorem c93:callB Tryz.prog 93=true :=
 eqq (by kernel_rfl)
theorem c94:callB Tryz.prog 94=true :=
 eqq (by kernel_rfl)
theorem c95:callB Tryz.prog 95=true :=
 eqq (by kernel_rfl)
theorem c96:callB Tryz.prog 96=true :=
 eqq (by kernel_rfl)
theorem c97:callB Tryz.prog 97=true :=
 eqq (by kernel_rfl)
theorem c99:callB Tryz.prog 99=true :=
 eqq (by kernel_rfl)
theorem t100:tsz Tryz.prog 100=some 1∧tby Tryz.prog 100=some 8∧tag Tryz.prog 100=some false∧tzr Tryz.prog 100=some [.nilFunc] :=
 ⟨eqq (by kernel_rfl),eqq (by kernel_rfl),eqq (by kernel_rfl),eqq (by kernel_rfl)⟩
theorem t104:tsz Tryz.prog 104=some 1∧tby Tryz.prog 104=some 8∧tag Tryz.prog 104=some false∧tzr Tryz.prog 104=some [.nilFunc] :=
 ⟨eqq (by kernel_rfl),eqq (by kernel_rfl),eqq (by kernel_rfl),eqq (by kernel_rfl)⟩
theorem t106:tsz Tryz.prog 106=some 0∧tby Tryz.prog 106=some 0∧tag Tryz.prog 106=some true∧tzr Tryz.prog 106=some []∧structB Tryz.prog 106=true∧emptyB Tryz.prog 106=true∧placeOf Tryz.prog 106 0=none :=
 ⟨eqq (by kernel_rfl),eqq (by kernel_rfl),eqq (by kernel_rfl),eqq (by kernel_rfl),eqq (by kernel_rfl),eqq (by kernel_rfl),eqq (by kernel_rfl)⟩
theorem t108:tsz Tryz.prog 108=some 0∧tby Tryz.prog 108=some 0∧tag Tryz.prog 108=some true∧tzr Tryz.prog 108=some []∧structB Tryz.prog 108=true∧fz Tryz.prog 108 0=true∧saneB Tryz.prog=true∧fld Tryz.prog 108 0=some (0,106)∧placeOf Tryz.prog 108 0=some (0,0) :=
 ⟨eqq (by kernel_rfl),eqq (by kernel_rfl),eqq (by kernel_rfl),eqq (by kernel_rfl),eqq (by kernel_rfl),eqq (by kernel_rfl),sane,eqq (by kernel_rfl),eqq (by kernel_rfl)⟩
theorem t109:tsz Tryz.prog 109=some 0∧tby Tryz.prog 109=some 0∧tag Tryz.prog 109=some true∧tzr Tryz.prog 109=some []∧structB Tryz.prog 109=true∧fz Tryz.prog 109 0=true∧saneB Tryz.prog=true∧fld Tryz.prog 109 0=some (0,106)∧placeOf Tryz.prog 109 0=some (0,0) :=
 ⟨eqq (by kernel_rfl),eqq (by kernel_rfl),eqq (by kernel_rfl),eqq (by kernel_rfl),eqq (by kernel_rfl),eqq (by kernel_rfl),sane,eqq (by kernel_rfl),eqq (by kernel_rfl)⟩
theorem t111:tsz Tryz.prog 111=some 1∧tby Tryz.prog 111=some 1∧tag Tryz.prog 111=some true∧tzr Tryz.prog 111=some [.bool false]∧structB Tryz.prog 111=true∧fz Tryz.prog 111 0=true∧saneB Tryz.prog=true∧fld Tryz.prog 111 0=some (0,106)∧placeOf Tryz.prog 111 0=some (0,0)∧fld Tryz.prog 111 1=some (0,4)∧placeOf Tryz.prog 111 1=some (0,1)∧eqT Tryz.prog 111=some [.b] :=
 ⟨eqq (by kernel_rfl),eqq (by kernel_rfl),eqq (by kernel_rfl),eqq (by kernel_rfl),eqq (by kernel_rfl),eqq (by kernel_rfl),sane,eqq (by kernel_rfl),eqq (by kernel_rfl),eqq (by kernel_rfl),eqq (by kernel_rfl),eqq (by kernel_rfl)⟩
theorem t113:tsz Tryz.prog 113=some 1∧tby Tryz.prog 113=some 8∧tag Tryz.prog 113=some false∧tzr Tryz.prog 113=some [.int .u64 0]∧Tryz.prog.underlying 113=some (.int .u64) :=
 ⟨eqq (by kernel_rfl),eqq (by kernel_rfl),eqq (by kernel_rfl),eqq (by kernel_rfl),eqq (by kernel_rfl)⟩
theorem t117:tsz Tryz.prog 117=some 2∧tby Tryz.prog 117=some 16∧tag Tryz.prog 117=some true∧tzr Tryz.prog 117=some [.int .i64 0,.int .i64 0]∧fld Tryz.prog 117 0=some (0,3)∧placeOf Tryz.prog 117 0=some (0,1)∧fld Tryz.prog 117 1=some (1,3)∧placeOf Tryz.prog 117 1=some (1,1)∧eqT Tryz.prog 117=some [.i .i64,.i .i64] :=
 ⟨eqq (by kernel_rfl),eqq (by kernel_rfl),eqq (by kernel_rfl),eqq (by kernel_rfl),eqq (by kernel_rfl),eqq (by kernel_rfl),eqq (by kernel_rfl),eqq (by kernel_rfl),eqq (by kernel_rfl)⟩
theorem t119:tsz Tryz.prog 119=some 1∧tby Tryz.prog 119=some 8∧tag Tryz.prog 119=some false∧tzr Tryz.prog 119=some [.nilFunc] :=
 ⟨eqq (by kernel_rfl),eqq (by kernel_rfl),eqq (by kernel_rfl),eqq (by kernel_rfl)⟩
theorem t121:tsz Tryz.prog 121=some 1∧tby Tryz.prog 121=some 8∧tag Tryz.prog 121=some false∧tzr Tryz.prog 121=some [.nilFunc] :=
 ⟨eqq (by kernel_rfl),eqq (by kernel_rfl),eqq (by kernel_rfl),eqq (by kernel_rfl)⟩
theorem t123:tsz Tryz.prog 123=some 1∧tby Tryz.prog 123=some 8∧tag Tryz.prog 123=some false∧tzr Tryz.prog 123=some [.nilFunc] :=
 ⟨eqq (by kernel_rfl),eqq (by kernel_rfl),eqq (by kernel_rfl),eqq (by kernel_rfl)⟩
theorem t126:tsz Tryz.prog 126=some 2∧tby Tryz.prog 126=some 16∧tag Tryz.prog 126=some true∧tzr Tryz.prog 126=some [.int .i64 0,.int .i64 0]∧fld Tryz.prog 126 0=some (0,3)∧placeOf Tryz.prog 126 0=some (0,1)∧fld Tryz.prog 126 1=some (1,3)∧placeOf Tryz.prog 126 1=some (1,1)∧eqT Tryz.prog 126=some [.i .i64,.i .i64] :=
 ⟨eqq (by kernel_rfl),eqq (by kernel_rfl),eqq (by kernel_rfl),eqq (by kernel_rfl),eqq (by kernel_rfl),eqq (by kernel_rfl),eqq (by kernel_rfl),eqq (by kernel_rfl),eqq (by kernel_rfl)⟩
theorem t127:tsz Tryz.prog 127=some 1∧tby Tryz.prog 127=some 0∧tag Tryz.prog 127=some false :=
 ⟨eqq (by kernel_rfl),eqq (by kernel_rfl),eqq (by kernel_rfl)⟩
theorem t134:tsz Tryz.prog 134=some 1∧tby Tryz.prog 134=some 8∧tag Tryz.prog 134=some false∧tzr Tryz.prog 134=some [.nilFunc] :=
 ⟨eqq (by kernel_rfl),eqq (by kernel_rfl),eqq (by kernel_rfl),eqq (by kernel_rfl)⟩
theorem t136:tsz Tryz.prog 136=some 1∧tby Tryz.prog 136=some 8∧tag Tryz.prog 136=some false∧tzr Tryz.prog 136=some [.nilFunc] :=
 ⟨eqq (by kernel_rfl),eqq (by kernel_rfl),eqq (by kernel_rfl),eqq (by kernel_rfl)⟩
theorem t142:tsz Tryz.prog 142=some 1∧tby Tryz.prog 142=some 8∧tag Tryz.prog 142=some false∧tzr Tryz.prog 142=some [.nilFunc] :=
 ⟨eqq (by kernel_rfl),eqq (by kernel_rfl),eqq (by kernel_rfl),eqq (by kernel_rfl)⟩
theorem t143:tsz Tryz.prog 143=some 1∧tby Tryz.prog 143=some 8∧tag Tryz.prog 143=some false∧tzr Tryz.prog 143=some [.nilFunc] :=
 ⟨eqq (by kernel_rfl),eqq (by kernel_rfl),eqq (by kernel_rfl),eqq (by kernel_rfl)⟩
theorem t152:tsz Tryz.prog 152=some 1∧tby Tryz.prog 152=some 8∧tag Tryz.prog 152=some false∧tzr Tryz.prog 152=some [.map none]∧Tryz.prog.underlying 152=some (.map 3 3)∧mapT Tryz.prog 152=some (3,([.i .i64],false),.lit (.int .i64 0)) :=
 ⟨eqq (by kernel_rfl),eqq (by kernel_rfl),eqq (by kernel_rfl),eqq (by kernel_rfl),eqq (by kernel_rfl),eqq (by kernel_rfl)⟩
theorem t158:tsz Tryz.prog 158=some 1∧tby Tryz.prog 158=some 8∧tag Tryz.prog 158=some false∧tzr Tryz.prog 158=some [.nilFunc] :=
 ⟨eqq (by kernel_rfl),eqq (by kernel_rfl),eqq (by kernel_rfl),eqq (by kernel_rfl)⟩
theorem t194:tsz Tryz.prog 194=some 1∧tby Tryz.prog 194=some 0∧tag Tryz.prog 194=some false :=
 ⟨eqq (by kernel_rfl),eqq (by kernel_rfl),eqq (by kernel_rfl)⟩
theorem t22:tsz Tryz.prog 22=some 1∧tby Tryz.prog 22=some 24∧tag Tryz.prog 22=some false∧tzr Tryz.prog 22=some [.slice none 0 0]∧Tryz.prog.underlying 22=some (.slice 30) :=
 ⟨eqq (by kernel_rfl),eqq (by kernel_rfl),ag22,eqq (by kernel_rfl),eqq (by kernel_rfl)⟩
theorem t233:tsz Tryz.prog 233=some 2∧tby Tryz.prog 233=some 24∧tag Tryz.prog 233=some true∧tzr Tryz.prog 233=some [.string ⟨#[]⟩,.int .i64 0]∧fld Tryz.prog 233 0=some (0,9)∧placeOf Tryz.prog 233 0=some (0,1)∧fld Tryz.prog 233 1=some (1,3)∧placeOf Tryz.prog 233 1=some (1,1)∧eqT Tryz.prog 233=some [.s,.i .i64] :=
 ⟨eqq (by kernel_rfl),eqq (by kernel_rfl),eqq (by kernel_rfl),eqq (by kernel_rfl),eqq (by kernel_rfl),eqq (by kernel_rfl),eqq (by kernel_rfl),eqq (by kernel_rfl),eqq (by kernel_rfl)⟩
theorem t238:tsz Tryz.prog 238=some 1∧tby Tryz.prog 238=some 8∧tag Tryz.prog 238=some false∧tzr Tryz.prog 238=some [.nilFunc] :=
 ⟨eqq (by kernel_rfl),eqq (by kernel_rfl),eqq (by kernel_rfl),eqq (by kernel_rfl)⟩
theorem t239:tsz Tryz.prog 239=some 1∧tby Tryz.prog 239=some 24∧tag Tryz.prog 239=some false∧tzr Tryz.prog 239=some [.slice none 0 0]∧Tryz.prog.underlying 239=some (.slice 53) :=
 ⟨eqq (by kernel_rfl),eqq (by kernel_rfl),eqq (by kernel_rfl),eqq (by kernel_rfl),eqq (by kernel_rfl)⟩
theorem t240:tsz Tryz.prog 240=some 1∧tby Tryz.prog 240=some 0∧tag Tryz.prog 240=some false :=
 ⟨eqq (by kernel_rfl),eqq (by kernel_rfl),eqq (by kernel_rfl)⟩
theorem t245:tsz Tryz.prog 245=some 1∧tby Tryz.prog 245=some 8∧tag Tryz.prog 245=some false∧tzr Tryz.prog 245=some [.nilFunc] :=
 ⟨eqq (by kernel_rfl),eqq (by kernel_rfl),eqq (by kernel_rfl),eqq (by kernel_rfl)⟩
theorem t26:tsz Tryz.prog 26=some 2∧tby Tryz.prog 26=some 24∧tag Tryz.prog 26=some true∧tzr Tryz.prog 26=some [.string ⟨#[]⟩,.int .i64 0]∧fld Tryz.prog 26 0=some (0,9)∧placeOf Tryz.prog 26 0=some (0,1)∧fld Tryz.prog 26 1=some (1,3)∧placeOf Tryz.prog 26 1=some (1,1)∧eqT Tryz.prog 26=some [.s,.i .i64] :=
 ⟨eqq (by kernel_rfl),eqq (by kernel_rfl),eqq (by kernel_rfl),eqq (by kernel_rfl),eqq (by kernel_rfl),eqq (by kernel_rfl),eqq (by kernel_rfl),eqq (by kernel_rfl),eqq (by kernel_rfl)⟩
theorem t28:tsz Tryz.prog 28=some 3∧tby Tryz.prog 28=some 32∧tag Tryz.prog 28=some true∧tzr Tryz.prog 28=some [.int .i64 0,.int .i64 0,.string ⟨#[]⟩]∧fld Tryz.prog 28 0=some (0,3)∧placeOf Tryz.prog 28 0=some (0,1)∧fld Tryz.prog 28 1=some (1,3)∧placeOf Tryz.prog 28 1=some (1,1)∧fld Tryz.prog 28 2=some (2,9)∧placeOf Tryz.prog 28 2=some (2,1)∧eqT Tryz.prog 28=some [.i .i64,.i .i64,.s] :=
 ⟨eqq (by kernel_rfl),eqq (by kernel_rfl),eqq (by kernel_rfl),eqq (by kernel_rfl),eqq (by kernel_rfl),eqq (by kernel_rfl),eqq (by kernel_rfl),eqq (by kernel_rfl),eqq (by kernel_rfl),eqq (by kernel_rfl),eqq (by kernel_rfl)⟩
theorem t3:tsz Tryz.prog 3=some 1∧tby Tryz.prog 3=some 8∧tag Tryz.prog 3=some false∧tzr Tryz.prog 3=some [.int .i64 0]∧Tryz.prog.underlying 3=some (.int .i64) :=
 ⟨eqq (by kernel_rfl),eqq (by kernel_rfl),ag3,eqq (by kernel_rfl),un3⟩
theorem t30:tsz Tryz.prog 30=some 9∧tby Tryz.prog 30=some 96∧tag Tryz.prog 30=some true∧tzr Tryz.prog 30=some [.string ⟨#[]⟩,.string ⟨#[]⟩,.int .i64 0,.int .i64 0,.int .i64 0,.int .i64 0,.string ⟨#[]⟩,.int .i64 0,.int .i64 0]∧fld Tryz.prog 30 0=some (0,9)∧placeOf Tryz.prog 30 0=some (0,1)∧fld Tryz.prog 30 1=some (1,26)∧placeOf Tryz.prog 30 1=some (1,2)∧fld Tryz.prog 30 2=some (3,3)∧placeOf Tryz.prog 30 2=some (3,1)∧fld Tryz.prog 30 3=some (4,28)∧placeOf Tryz.prog 30 3=some (4,3)∧fld Tryz.prog 30 4=some (7,3)∧placeOf Tryz.prog 30 4=some (7,1)∧fld Tryz.prog 30 5=some (8,3)∧placeOf Tryz.prog 30 5=some (8,1)∧eqT Tryz.prog 30=some [.s,.s,.i .i64,.i .i64,.i .i64,.i .i64,.s,.i .i64,.i .i64] :=
 ⟨eqq (by kernel_rfl),eqq (by kernel_rfl),eqq (by kernel_rfl),eqq (by kernel_rfl),eqq (by kernel_rfl),eqq (by kernel_rfl),eqq (by kernel_rfl),eqq (by kernel_rfl),eqq (by kernel_rfl),eqq (by kernel_rfl),eqq (by kernel_rfl),eqq (by kernel_rfl),eqq (by kernel_rfl),eqq (by kernel_rfl),eqq (by kernel_rfl),eqq (by kernel_rfl),eqq (by kernel_rfl)⟩
theorem t31:tsz Tryz.prog 31=some 1∧tby Tryz.prog 31=some 24∧tag Tryz.prog 31=some false∧tzr Tryz.prog 31=some [.slice none 0 0]∧Tryz.prog.underlying 31=some (.slice 57) :=
 ⟨eqq (by kernel_rfl),eqq (by kernel_rfl),eqq (by kernel_rfl),eqq (by kernel_rfl),eqq (by kernel_rfl)⟩
theorem t4:tsz Tryz.prog 4=some 1∧tby Tryz.prog 4=some 1∧tag Tryz.prog 4=some false∧tzr Tryz.prog 4=some [.bool false]∧Tryz.prog.underlying 4=some .bool :=
 ⟨eqq (by kernel_rfl),eqq (by kernel_rfl),eqq (by kernel_rfl),eqq (by kernel_rfl),un4⟩
theorem t40:tsz Tryz.prog 40=some 1∧tby Tryz.prog 40=some 8∧tag Tryz.prog 40=some false∧tzr Tryz.prog 40=some [.int .i64 0]∧Tryz.prog.underlying 40=some (.int .i64) :=
 ⟨eqq (by kernel_rfl),eqq (by kernel_rfl),eqq (by kernel_rfl),eqq (by kernel_rfl),eqq (by kernel_rfl)⟩
theorem t43:tsz Tryz.prog 43=some 1∧tby Tryz.prog 43=some 16∧tag Tryz.prog 43=some false∧tzr Tryz.prog 43=some [.nilIface] :=
 ⟨eqq (by kernel_rfl),eqq (by kernel_rfl),eqq (by kernel_rfl),eqq (by kernel_rfl)⟩
theorem t44:tsz Tryz.prog 44=some 1∧tby Tryz.prog 44=some 0∧tag Tryz.prog 44=some false :=
 ⟨eqq (by kernel_rfl),eqq (by kernel_rfl),eqq (by kernel_rfl)⟩
theorem t47:tsz Tryz.prog 47=some 1∧tby Tryz.prog 47=some 8∧tag Tryz.prog 47=some false∧tzr Tryz.prog 47=some [.nilFunc] :=
 ⟨eqq (by kernel_rfl),eqq (by kernel_rfl),eqq (by kernel_rfl),eqq (by kernel_rfl)⟩
theorem t49:tsz Tryz.prog 49=some 1∧tby Tryz.prog 49=some 8∧tag Tryz.prog 49=some false∧tzr Tryz.prog 49=some [.int .u64 0]∧Tryz.prog.underlying 49=some (.int .u64) :=
 ⟨eqq (by kernel_rfl),eqq (by kernel_rfl),eqq (by kernel_rfl),eqq (by kernel_rfl),eqq (by kernel_rfl)⟩
theorem t5:tsz Tryz.prog 5=some 1∧tby Tryz.prog 5=some 1∧tag Tryz.prog 5=some false∧tzr Tryz.prog 5=some [.int .u8 0]∧Tryz.prog.underlying 5=some (.int .u8) :=
 ⟨eqq (by kernel_rfl),eqq (by kernel_rfl),eqq (by kernel_rfl),eqq (by kernel_rfl),eqq (by kernel_rfl)⟩
theorem t51:tsz Tryz.prog 51=some 2∧tby Tryz.prog 51=some 16∧tag Tryz.prog 51=some true∧tzr Tryz.prog 51=some [.int .i64 0,.int .u64 0]∧fld Tryz.prog 51 0=some (0,3)∧placeOf Tryz.prog 51 0=some (0,1)∧fld Tryz.prog 51 1=some (1,49)∧placeOf Tryz.prog 51 1=some (1,1)∧eqT Tryz.prog 51=some [.i .i64,.i .u64] :=
 ⟨eqq (by kernel_rfl),eqq (by kernel_rfl),eqq (by kernel_rfl),eqq (by kernel_rfl),eqq (by kernel_rfl),eqq (by kernel_rfl),eqq (by kernel_rfl),eqq (by kernel_rfl),eqq (by kernel_rfl)⟩
theorem t52:tsz Tryz.prog 52=some 1∧tby Tryz.prog 52=some 24∧tag Tryz.prog 52=some false∧tzr Tryz.prog 52=some [.slice none 0 0]∧Tryz.prog.underlying 52=some (.slice 65) :=
 ⟨eqq (by kernel_rfl),eqq (by kernel_rfl),eqq (by kernel_rfl),eqq (by kernel_rfl),eqq (by kernel_rfl)⟩
theorem t53:tsz Tryz.prog 53=some 1∧tby Tryz.prog 53=some 24∧tag Tryz.prog 53=some false∧tzr Tryz.prog 53=some [.slice none 0 0]∧Tryz.prog.underlying 53=some (.slice 117) :=
 ⟨eqq (by kernel_rfl),eqq (by kernel_rfl),eqq (by kernel_rfl),eqq (by kernel_rfl),eqq (by kernel_rfl)⟩
theorem t55:tsz Tryz.prog 55=some 5∧tby Tryz.prog 55=some 72∧tag Tryz.prog 55=some true∧tzr Tryz.prog 55=some [.int .i64 0,.int .i64 0,.int .u64 0,.slice none 0 0,.slice none 0 0]∧fld Tryz.prog 55 0=some (0,3)∧placeOf Tryz.prog 55 0=some (0,1)∧fld Tryz.prog 55 1=some (1,51)∧placeOf Tryz.prog 55 1=some (1,2)∧fld Tryz.prog 55 2=some (3,52)∧placeOf Tryz.prog 55 2=some (3,1)∧fld Tryz.prog 55 3=some (4,53)∧placeOf Tryz.prog 55 3=some (4,1) :=
 ⟨eqq (by kernel_rfl),eqq (by kernel_rfl),eqq (by kernel_rfl),eqq (by kernel_rfl),eqq (by kernel_rfl),eqq (by kernel_rfl),eqq (by kernel_rfl),eqq (by kernel_rfl),eqq (by kernel_rfl),eqq (by kernel_rfl),eqq (by kernel_rfl),eqq (by kernel_rfl)⟩
theorem t57:tsz Tryz.prog 57=some 6∧tby Tryz.prog 57=some 80∧tag Tryz.prog 57=some true∧tzr Tryz.prog 57=some [.int .i64 0,.int .i64 0,.int .i64 0,.int .u64 0,.slice none 0 0,.slice none 0 0]∧fld Tryz.prog 57 0=some (0,3)∧placeOf Tryz.prog 57 0=some (0,1)∧fld Tryz.prog 57 1=some (1,55)∧placeOf Tryz.prog 57 1=some (1,5) :=
 ⟨eqq (by kernel_rfl),eqq (by kernel_rfl),eqq (by kernel_rfl),eqq (by kernel_rfl),eqq (by kernel_rfl),eqq (by kernel_rfl),eqq (by kernel_rfl),eqq (by kernel_rfl)⟩
theorem t58:tsz Tryz.prog 58=some 1∧tby Tryz.prog 58=some 0∧tag Tryz.prog 58=some false :=
 ⟨eqq (by kernel_rfl),eqq (by kernel_rfl),eqq (by kernel_rfl)⟩
theorem t61:tsz Tryz.prog 61=some 1∧tby Tryz.prog 61=some 8∧tag Tryz.prog 61=some false∧tzr Tryz.prog 61=some [.nilFunc] :=
 ⟨eqq (by kernel_rfl),eqq (by kernel_rfl),eqq (by kernel_rfl),eqq (by kernel_rfl)⟩
theorem t65:tsz Tryz.prog 65=some 6∧tby Tryz.prog 65=some 64∧tag Tryz.prog 65=some true∧tzr Tryz.prog 65=some [.int .i64 0,.int .i64 0,.string ⟨#[]⟩,.string ⟨#[]⟩,.int .i64 0,.int .i64 0]∧fld Tryz.prog 65 0=some (0,28)∧placeOf Tryz.prog 65 0=some (0,3)∧fld Tryz.prog 65 1=some (3,26)∧placeOf Tryz.prog 65 1=some (3,2)∧fld Tryz.prog 65 2=some (5,3)∧placeOf Tryz.prog 65 2=some (5,1)∧eqT Tryz.prog 65=some [.i .i64,.i .i64,.s,.s,.i .i64,.i .i64] :=
 ⟨eqq (by kernel_rfl),eqq (by kernel_rfl),eqq (by kernel_rfl),eqq (by kernel_rfl),eqq (by kernel_rfl),eqq (by kernel_rfl),eqq (by kernel_rfl),eqq (by kernel_rfl),eqq (by kernel_rfl),eqq (by kernel_rfl),eqq (by kernel_rfl)⟩
theorem t69:tsz Tryz.prog 69=some 1∧tby Tryz.prog 69=some 24∧tag Tryz.prog 69=some false∧tzr Tryz.prog 69=some [.slice none 0 0]∧Tryz.prog.underlying 69=some (.slice 233) :=
 ⟨eqq (by kernel_rfl),eqq (by kernel_rfl),eqq (by kernel_rfl),eqq (by kernel_rfl),eqq (by kernel_rfl)⟩
theorem t71:tsz Tryz.prog 71=some 3∧tby Tryz.prog 71=some 48∧tag Tryz.prog 71=some true∧tzr Tryz.prog 71=some [.int .i64 0,.slice none 0 0,.string ⟨#[]⟩]∧fld Tryz.prog 71 0=some (0,3)∧placeOf Tryz.prog 71 0=some (0,1)∧fld Tryz.prog 71 1=some (1,69)∧placeOf Tryz.prog 71 1=some (1,1)∧fld Tryz.prog 71 2=some (2,9)∧placeOf Tryz.prog 71 2=some (2,1) :=
 ⟨eqq (by kernel_rfl),eqq (by kernel_rfl),eqq (by kernel_rfl),eqq (by kernel_rfl),eqq (by kernel_rfl),eqq (by kernel_rfl),eqq (by kernel_rfl),eqq (by kernel_rfl),eqq (by kernel_rfl),eqq (by kernel_rfl)⟩
theorem t73:tsz Tryz.prog 73=some 4∧tby Tryz.prog 73=some 64∧tag Tryz.prog 73=some true∧tzr Tryz.prog 73=some [.string ⟨#[]⟩,.int .i64 0,.slice none 0 0,.string ⟨#[]⟩]∧fld Tryz.prog 73 0=some (0,9)∧placeOf Tryz.prog 73 0=some (0,1)∧fld Tryz.prog 73 1=some (1,71)∧placeOf Tryz.prog 73 1=some (1,3) :=
 ⟨eqq (by kernel_rfl),eqq (by kernel_rfl),eqq (by kernel_rfl),eqq (by kernel_rfl),eqq (by kernel_rfl),eqq (by kernel_rfl),eqq (by kernel_rfl),eqq (by kernel_rfl)⟩
theorem t74:tsz Tryz.prog 74=some 1∧tby Tryz.prog 74=some 24∧tag Tryz.prog 74=some false∧tzr Tryz.prog 74=some [.slice none 0 0]∧Tryz.prog.underlying 74=some (.slice 73) :=
 ⟨eqq (by kernel_rfl),eqq (by kernel_rfl),eqq (by kernel_rfl),eqq (by kernel_rfl),eqq (by kernel_rfl)⟩
theorem t76:tsz Tryz.prog 76=some 4∧tby Tryz.prog 76=some 64∧tag Tryz.prog 76=some true∧tzr Tryz.prog 76=some [.string ⟨#[]⟩,.string ⟨#[]⟩,.slice none 0 0,.int .i64 0]∧fld Tryz.prog 76 0=some (0,9)∧placeOf Tryz.prog 76 0=some (0,1)∧fld Tryz.prog 76 1=some (1,9)∧placeOf Tryz.prog 76 1=some (1,1)∧fld Tryz.prog 76 2=some (2,74)∧placeOf Tryz.prog 76 2=some (2,1)∧fld Tryz.prog 76 3=some (3,3)∧placeOf Tryz.prog 76 3=some (3,1) :=
 ⟨eqq (by kernel_rfl),eqq (by kernel_rfl),eqq (by kernel_rfl),eqq (by kernel_rfl),eqq (by kernel_rfl),eqq (by kernel_rfl),eqq (by kernel_rfl),eqq (by kernel_rfl),eqq (by kernel_rfl),eqq (by kernel_rfl),eqq (by kernel_rfl),eqq (by kernel_rfl)⟩
theorem t78:tsz Tryz.prog 78=some 2∧tby Tryz.prog 78=some 16∧tag Tryz.prog 78=some true∧tzr Tryz.prog 78=some [.int .i64 0,.int .i64 0]∧fld Tryz.prog 78 0=some (0,3)∧placeOf Tryz.prog 78 0=some (0,1)∧fld Tryz.prog 78 1=some (1,3)∧placeOf Tryz.prog 78 1=some (1,1)∧eqT Tryz.prog 78=some [.i .i64,.i .i64] :=
 ⟨eqq (by kernel_rfl),eqq (by kernel_rfl),eqq (by kernel_rfl),eqq (by kernel_rfl),eqq (by kernel_rfl),eqq (by kernel_rfl),eqq (by kernel_rfl),eqq (by kernel_rfl),eqq (by kernel_rfl)⟩
theorem t79:tsz Tryz.prog 79=some 1∧tby Tryz.prog 79=some 24∧tag Tryz.prog 79=some false∧tzr Tryz.prog 79=some [.slice none 0 0]∧Tryz.prog.underlying 79=some (.slice 81) :=
 ⟨eqq (by kernel_rfl),eqq (by kernel_rfl),eqq (by kernel_rfl),eqq (by kernel_rfl),eqq (by kernel_rfl)⟩
theorem t81:tsz Tryz.prog 81=some 12∧tby Tryz.prog 81=some 160∧tag Tryz.prog 81=some true∧tzr Tryz.prog 81=some [.int .i64 0,.string ⟨#[]⟩,.string ⟨#[]⟩,.string ⟨#[]⟩,.int .i64 0,.int .i64 0,.string ⟨#[]⟩,.slice none 0 0,.int .i64 0,.int .i64 0,.int .i64 0,.slice none 0 0]∧fld Tryz.prog 81 0=some (0,3)∧placeOf Tryz.prog 81 0=some (0,1)∧fld Tryz.prog 81 1=some (1,9)∧placeOf Tryz.prog 81 1=some (1,1)∧fld Tryz.prog 81 2=some (2,9)∧placeOf Tryz.prog 81 2=some (2,1)∧fld Tryz.prog 81 3=some (3,9)∧placeOf Tryz.prog 81 3=some (3,1)∧fld Tryz.prog 81 4=some (4,28)∧placeOf Tryz.prog 81 4=some (4,3)∧fld Tryz.prog 81 5=some (7,69)∧placeOf Tryz.prog 81 5=some (7,1)∧fld Tryz.prog 81 6=some (8,3)∧placeOf Tryz.prog 81 6=some (8,1)∧fld Tryz.prog 81 7=some (9,78)∧placeOf Tryz.prog 81 7=some (9,2)∧fld Tryz.prog 81 8=some (11,79)∧placeOf Tryz.prog 81 8=some (11,1) :=
 ⟨eqq (by kernel_rfl),eqq (by kernel_rfl),eqq (by kernel_rfl),eqq (by kernel_rfl),eqq (by kernel_rfl),eqq (by kernel_rfl),eqq (by kernel_rfl),eqq (by kernel_rfl),eqq (by kernel_rfl),eqq (by kernel_rfl),eqq (by kernel_rfl),eqq (by kernel_rfl),eqq (by kernel_rfl),eqq (by kernel_rfl),eqq (by kernel_rfl),eqq (by kernel_rfl),eqq (by kernel_rfl),eqq (by kernel_rfl),eqq (by kernel_rfl),eqq (by kernel_rfl),eqq (by kernel_rfl),eqq (by kernel_rfl)⟩
theorem t82:tsz Tryz.prog 82=some 1∧tby Tryz.prog 82=some 24∧tag Tryz.prog 82=some false∧tzr Tryz.prog 82=some [.slice none 0 0]∧Tryz.prog.underlying 82=some (.slice 28) :=
 ⟨eqq (by kernel_rfl),eqq (by kernel_rfl),eqq (by kernel_rfl),eqq (by kernel_rfl),eqq (by kernel_rfl)⟩
theorem t84:tsz Tryz.prog 84=some 8∧tby Tryz.prog 84=some 104∧tag Tryz.prog 84=some true∧tzr Tryz.prog 84=some [.string ⟨#[]⟩,.int .i64 0,.string ⟨#[]⟩,.string ⟨#[]⟩,.int .i64 0,.slice none 0 0,.int .i64 0,.int .i64 0]∧fld Tryz.prog 84 0=some (0,26)∧placeOf Tryz.prog 84 0=some (0,2)∧fld Tryz.prog 84 1=some (2,9)∧placeOf Tryz.prog 84 1=some (2,1)∧fld Tryz.prog 84 2=some (3,9)∧placeOf Tryz.prog 84 2=some (3,1)∧fld Tryz.prog 84 3=some (4,3)∧placeOf Tryz.prog 84 3=some (4,1)∧fld Tryz.prog 84 4=some (5,82)∧placeOf Tryz.prog 84 4=some (5,1)∧fld Tryz.prog 84 5=some (6,3)∧placeOf Tryz.prog 84 5=some (6,1)∧fld Tryz.prog 84 6=some (7,3)∧placeOf Tryz.prog 84 6=some (7,1) :=
 ⟨eqq (by kernel_rfl),eqq (by kernel_rfl),eqq (by kernel_rfl),eqq (by kernel_rfl),eqq (by kernel_rfl),eqq (by kernel_rfl),eqq (by kernel_rfl),eqq (by kernel_rfl),eqq (by kernel_rfl),eqq (by kernel_rfl),eqq (by kernel_rfl),eqq (by kernel_rfl),eqq (by kernel_rfl),eqq (by kernel_rfl),eqq (by kernel_rfl),eqq (by kernel_rfl),eqq (by kernel_rfl),eqq (by kernel_rfl)⟩
theorem t87:tsz Tryz.prog 87=some 10∧tby Tryz.prog 87=some 120∧tag Tryz.prog 87=some true∧tzr Tryz.prog 87=some [.string ⟨#[]⟩,.int .i64 0,.string ⟨#[]⟩,.string ⟨#[]⟩,.int .i64 0,.slice none 0 0,.int .i64 0,.int .i64 0,.int .i64 0,.int .i64 0]∧fld Tryz.prog 87 0=some (0,84)∧placeOf Tryz.prog 87 0=some (0,8)∧fld Tryz.prog 87 1=some (8,3)∧placeOf Tryz.prog 87 1=some (8,1)∧fld Tryz.prog 87 2=some (9,3)∧placeOf Tryz.prog 87 2=some (9,1) :=
 ⟨eqq (by kernel_rfl),eqq (by kernel_rfl),eqq (by kernel_rfl),eqq (by kernel_rfl),eqq (by kernel_rfl),eqq (by kernel_rfl),eqq (by kernel_rfl),eqq (by kernel_rfl),eqq (by kernel_rfl),eqq (by kernel_rfl)⟩
theorem t88:tsz Tryz.prog 88=some 1∧tby Tryz.prog 88=some 24∧tag Tryz.prog 88=some false∧tzr Tryz.prog 88=some [.slice none 0 0]∧Tryz.prog.underlying 88=some (.slice 87) :=
 ⟨eqq (by kernel_rfl),eqq (by kernel_rfl),eqq (by kernel_rfl),eqq (by kernel_rfl),eqq (by kernel_rfl)⟩
theorem t9:tsz Tryz.prog 9=some 1∧tby Tryz.prog 9=some 16∧tag Tryz.prog 9=some false∧tzr Tryz.prog 9=some [.string ⟨#[]⟩]∧Tryz.prog.underlying 9=some .string :=
 ⟨eqq (by kernel_rfl),eqq (by kernel_rfl),ag9,eqq (by kernel_rfl),un9⟩
theorem t91:tsz Tryz.prog 91=some 1∧tby Tryz.prog 91=some 24∧tag Tryz.prog 91=some false∧tzr Tryz.prog 91=some [.slice none 0 0]∧Tryz.prog.underlying 91=some (.slice 3) :=
 ⟨eqq (by kernel_rfl),eqq (by kernel_rfl),eqq (by kernel_rfl),eqq (by kernel_rfl),eqq (by kernel_rfl)⟩
theorem t99:tsz Tryz.prog 99=some 1∧tby Tryz.prog 99=some 8∧tag Tryz.prog 99=some false∧tzr Tryz.prog 99=some [.nilFunc] :=
 ⟨eqq (by kernel_rfl),eqq (by kernel_rfl),eqq (by kernel_rfl),eqq (by kernel_rfl)⟩
end Go.Proofs.YtjdggbanifineaaGreat.Ty
theorem Go.VL.aI {a b:Prop} (x:a) (y:b):a∧b:=⟨x,y⟩
