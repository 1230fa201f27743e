/- Merged out of my text Ty. -/
import Derived.Test.YtohdpcjaoiebkaaGreatDoorProg
import Derived.Test.YtohdpcjaoiebkaaGreatDoorKVE
import Derived.KernelRfl
namespace Go.Proofs.YtohdpcjaoiebkaaGreatDoor.Ty
open Go.VL Go.Proofs
theorem mixed:Tryz.prog.follows .mixedOrders=true:=qh (by kernel_rfl)
theorem un3:Tryz.prog.underlying 3=some (.int .i64):=qh (by kernel_rfl)
theorem un4:Tryz.prog.underlying 4=some .bool:=qh (by kernel_rfl)
theorem un9:Tryz.prog.underlying 9=some .string:=qh (by kernel_rfl)
theorem un22:Tryz.prog.underlying 22=some (.slice 63):=qh (by kernel_rfl)
theorem un23:Tryz.prog.underlying 23=some (.slice 45):=qh (by kernel_rfl)
theorem ag25:zN Tryz.prog 25=some true:=qh (by kernel_rfl)
theorem un29:Tryz.prog.underlying 29=some (.slice 40):=qh (by kernel_rfl)
theorem un36:Tryz.prog.underlying 36=some (.slice 126):=qh (by kernel_rfl)
theorem sz45:qV Tryz.prog 45=some 18:=qh (by kernel_rfl)
theorem by45:xk Tryz.prog 45=some 248:=qh (by kernel_rfl)
theorem zr45:z7 Tryz.prog 45=some [.string ⟨#[]⟩,.string ⟨#[]⟩,.int .i64 0,.slice none 0 0,.string ⟨#[]⟩,.int .i64 0,.string ⟨#[]⟩,.string ⟨#[]⟩,.string ⟨#[]⟩,.int .i64 0,.int .i64 0,.string ⟨#[]⟩,.slice none 0 0,.int .i64 0,.int .i64 0,.int .i64 0,.slice none 0 0,.int .i64 0]:=qh (by kernel_rfl)
theorem un61:Tryz.prog.underlying 61=some (.slice 60):=qh (by kernel_rfl)
theorem un216:Tryz.prog.underlying 216=some (.array 20 143):=qh (by kernel_rfl)
theorem cb104:ql Tryz.prog 104=true:=qh (by kernel_rfl)
theorem c10:ql Tryz.prog 10=true :=
 qh (by kernel_rfl)
theorem c100:ql Tryz.prog 100=true :=
 qh (by kernel_rfl)
theorem c101:ql Tryz.prog 101=true :=
 qh (by kernel_rfl)
theorem c102:ql Tryz.prog 102=true :=
 qh (by kernel_rfl)
theorem c103:ql Tryz.prog 103=true :=
 qh (by kernel_rfl)
theorem c104:ql Tryz.prog 104=true :=
 cb104
theorem c105:ql Tryz.prog 105=true :=
 qh (by kernel_rfl)
theorem c106:ql Tryz.prog 106=true :=
 qh (by kernel_rfl)
theorem c107:ql Tryz.prog 107=true :=
 qh (by kernel_rfl)
theorem c108:ql Tryz.prog 108=true :=
 qh (by kernel_rfl)
theorem c109:ql Tryz.prog 109=true :=
 qh (by kernel_rfl)
theorem c11:ql Tryz.prog 11=true :=
 qh (by kernel_rfl)
theorem c110:ql Tryz.prog 110=true :=
 qh (by kernel_rfl)
theorem c111:ql Tryz.prog 111=true :=
 qh (by kernel_rfl)
theorem c112:ql Tryz.prog 112=true :=
 qh (by kernel_rfl)
theorem c113:ql Tryz.prog 113=true :=
 qh (by kernel_rfl)
theorem c114:ql Tryz.prog 114=true :=
 qh (by kernel_rfl)
theorem c115:ql Tryz.prog 115=true :=
 qh (by kernel_rfl)
theorem c116:ql Tryz.prog 116=true :=
 qh (by kernel_rfl)
theorem c12:ql Tryz.prog 12=true :=
 qh (by kernel_rfl)
theorem c123:ql Tryz.prog 123=true :=
 qh (by kernel_rfl)
theorem c124:ql Tryz.prog 124=true :=
 qh (by kernel_rfl)
theorem c125:ql Tryz.prog 125=true :=
 qh (by kernel_rfl)
theorem c126:ql Tryz.prog 126=true :=
 qh (by kernel_rfl)
theorem c127:ql Tryz.prog 127=true :=
 qh (by kernel_rfl)
theorem c128:ql Tryz.prog 128=true :=
 qh (by kernel_rfl)
theorem c129:ql Tryz.prog 129=true :=
 qh (by kernel_rfl)
theorem c13:ql Tryz.prog 13=true :=
 qh (by kernel_rfl)
theorem c130:ql Tryz.prog 130=true :=
 qh (by kernel_rfl)
theorem c131:ql Tryz.prog 131=true :=
 qh (by kernel_rfl)
theorem c132:ql Tryz.prog 132=true :=
 qh (by kernel_rfl)
theorem c133:ql Tryz.prog 133=true :=
 qh (by kernel_rfl)
theorem c134:ql Tryz.prog 134=true :=
 qh (by kernel_rfl)
theorem c135:ql Tryz.prog 135=true :=
 qh (by kernel_rfl)
theorem c136:ql Tryz.prog 136=true :=
 qh (by kernel_rfl)
theorem c137:ql Tryz.prog 137=true :=
 qh (by kernel_rfl)
theorem c138:ql Tryz.prog 138=true :=
 qh (by kernel_rfl)
theorem c139:ql Tryz.prog 139=true :=
 qh (by kernel_rfl)
theorem c14:ql Tryz.prog 14=true :=
 qh (by kernel_rfl)
theorem c140:ql Tryz.prog 140=true :=
 qh (by kernel_rfl)
theorem c141:ql Tryz.prog 141=true :=
 qh (by kernel_rfl)
theorem c142:ql Tryz.prog 142=true :=
 qh (by kernel_rfl)
theorem c143:ql Tryz.prog 143=true :=
 qh (by kernel_rfl)
theorem c144:ql Tryz.prog 144=true :=
 qh (by kernel_rfl)
theorem c145:ql Tryz.prog 145=true :=
 qh (by kernel_rfl)
theorem c146:ql Tryz.prog 146=true :=
 qh (by kernel_rfl)
theorem c148:ql Tryz.prog 148=true :=
 qh (by kernel_rfl)
theorem c149:ql Tryz.prog 149=true :=
 qh (by kernel_rfl)
theorem c15:ql Tryz.prog 15=true :=
 qh (by kernel_rfl)
theorem c150:ql Tryz.prog 150=true :=
 qh (by kernel_rfl)
theorem c151:ql Tryz.prog 151=true :=
 qh (by kernel_rfl)
theorem c155:ql Tryz.prog 155=true :=
 qh (by kernel_rfl)
theorem c156:ql Tryz.prog 156=true :=
 qh (by kernel_rfl)
theorem c157:ql Tryz.prog 157=true :=
 qh (by kernel_rfl)
theorem c158:ql Tryz.prog 158=true :=
 qh (by kernel_rfl)
theorem c159:ql Tryz.prog 159=true :=
 qh (by kernel_rfl)
theorem c16:ql Tryz.prog 16=true :=
 qh (by kernel_rfl)
theorem c160:ql Tryz.prog 160=true :=
 qh (by kernel_rfl)
theorem c161:ql Tryz.prog 161=true :=
 qh (by kernel_rfl)
theorem c162:ql Tryz.prog 162=true :=
 qh (by kernel_rfl)
theorem c163:ql Tryz.prog 163=true :=
 qh (by kernel_rfl)
theorem c167:ql Tryz.prog 167=true :=
 qh (by kernel_rfl)
theorem c168:ql Tryz.prog 168=true :=
 qh (by kernel_rfl)
theorem c169:ql Tryz.prog 169=true :=
 qh (by kernel_rfl)
theorem c17:ql Tryz.prog 17=true :=
 qh (by kernel_rfl)
theorem c170:ql Tryz.prog 170=true :=
 qh (by kernel_rfl)
theorem c171:ql Tryz.prog 171=true :=
 qh (by kernel_rfl)
theorem c172:ql Tryz.prog 172=true :=
 qh (by kernel_rfl)
theorem c173:ql Tryz.prog 173=true :=
 qh (by kernel_rfl)
theorem c174:ql Tryz.prog 174=true :=
 qh (by kernel_rfl)
theorem c175:ql Tryz.prog 175=true :=
 qh (by kernel_rfl)
theorem c176:ql Tryz.prog 176=true :=
 qh (by kernel_rfl)
theorem c177:ql Tryz.prog 177=true :=
 qh (by kernel_rfl)
theorem c18:ql Tryz.prog 18=true :=
 qh (by kernel_rfl)
theorem c181:ql Tryz.prog 181=true :=
 qh (by kernel_rfl)
theorem c182:ql Tryz.prog 182=true :=
 qh (by kernel_rfl)
theorem c185:ql Tryz.prog 185=true :=
 qh (by kernel_rfl)
theorem c186:ql Tryz.prog 186=true :=
 qh (by kernel_rfl)
theorem c187:ql Tryz.prog 187=true :=
 qh (by kernel_rfl)
theorem c19:ql Tryz.prog 19=true :=
 qh (by kernel_rfl)
theorem c194:ql Tryz.prog 194=true :=
 qh (by kernel_rfl)
theorem c195:ql Tryz.prog 195=true :=
 qh (by kernel_rfl)
theorem c196:ql Tryz.prog 196=true :=
 qh (by kernel_rfl)
theorem c199:ql Tryz.prog 199=true :=
 qh (by kernel_rfl)
theorem c20:ql Tryz.prog 20=true :=
 qh (by kernel_rfl)
theorem c200:ql Tryz.prog 200=true :=
 qh (by kernel_rfl)
theorem c201:ql Tryz.prog 201=true :=
 qh (by kernel_rfl)
theorem c202:ql Tryz.prog 202=true :=
 qh (by kernel_rfl)
theorem c203:ql Tryz.prog 203=true :=
 qh (by kernel_rfl)
theorem c204:ql Tryz.prog 204=true :=
 qh (by kernel_rfl)
theorem c205:ql Tryz.prog 205=true :=
 qh (by kernel_rfl)
theorem c206:ql Tryz.prog 206=true :=
 qh (by kernel_rfl)
theorem c207:ql Tryz.prog 207=true :=
 qh (by kernel_rfl)
theorem c21:ql Tryz.prog 21=true :=
 qh (by kernel_rfl)
theorem c22:ql Tryz.prog 22=true :=
 qh (by kernel_rfl)
theorem c23:ql Tryz.prog 23=true :=
 qh (by kernel_rfl)
theorem c24:ql Tryz.prog 24=true :=
 qh (by kernel_rfl)
theorem c25:ql Tryz.prog 25=true :=
 qh (by kernel_rfl)
theorem c26:ql Tryz.prog 26=true :=
 qh (by kernel_rfl)
theorem c27:ql Tryz.prog 27=true :=
 qh (by kernel_rfl)
theorem c28:ql Tryz.prog 28=true :=
 qh (by kernel_rfl)
theorem c29:ql Tryz.prog 29=true :=
 qh (by kernel_rfl)
theorem c30:ql Tryz.prog 30=true :=
 qh (by kernel_rfl)
theorem c31:ql Tryz.prog 31=true :=
 qh (by kernel_rfl)
theorem c32:ql Tryz.prog 32=true :=
 qh (by kernel_rfl)
theorem c33:ql Tryz.prog 33=true :=
 qh (by kernel_rfl)
theorem c34:ql Tryz.prog 34=true :=
 qh (by kernel_rfl)
theorem c35:ql Tryz.prog 35=true :=
 qh (by kernel_rfl)
theorem c36:ql Tryz.prog 36=true :=
 qh (by kernel_rfl)
theorem c37:ql Tryz.prog 37=true :=
 qh (by kernel_rfl)
theorem c38:ql Tryz.prog 38=true :=
 qh (by kernel_rfl)
theorem c39:ql Tryz.prog 39=true :=
 qh (by kernel_rfl)
theorem c4:ql Tryz.prog 4=true :=
 qh (by kernel_rfl)
theorem c40:ql Tryz.prog 40=true :=
 qh (by kernel_rfl)
theorem c41:ql Tryz.prog 41=true :=
 qh (by kernel_rfl)
theorem c42:ql Tryz.prog 42=true :=
 qh (by kernel_rfl)
theorem c43:ql Tryz.prog 43=true :=
 qh (by kernel_rfl)
theorem c44:ql Tryz.prog 44=true :=
 qh (by kernel_rfl)
theorem c47:ql Tryz.prog 47=true :=
 qh (by kernel_rfl)
theorem c48:ql Tryz.prog 48=true :=
 qh (by kernel_rfl)
theorem c49:ql Tryz.prog 49=true :=
 qh (by kernel_rfl)
theorem c5:ql Tryz.prog 5=true :=
 qh (by kernel_rfl)
theorem c50:ql Tryz.prog 50=true :=
 qh (by kernel_rfl)
theorem c51:ql Tryz.prog 51=true :=
 qh (by kernel_rfl)
theorem c52:ql Tryz.prog 52=true :=
 qh (by kernel_rfl)
theorem c53:ql Tryz.prog 53=true :=
 qh (by kernel_rfl)
theorem c54:ql Tryz.prog 54=true :=
 qh (by kernel_rfl)
theorem c55:ql Tryz.prog 55=true :=
 qh (by kernel_rfl)
theorem c56:ql Tryz.prog 56=true :=
 qh (by kernel_rfl)
theorem c57:ql Tryz.prog 57=true :=
 qh (by kernel_rfl)
theorem c58:ql Tryz.prog 58=true :=
 qh (by kernel_rfl)
theorem c59:ql Tryz.prog 59=true :=
 qh (by kernel_rfl)
theorem c6:ql Tryz.prog 6=true :=
 qh (by kernel_rfl)
theorem c60:ql Tryz.prog 60=true :=
 qh (by kernel_rfl)
theorem c61:ql Tryz.prog 61=true :=
 qh (by kernel_rfl)
theorem c62:ql Tryz.prog 62=true :=
 qh (by kernel_rfl)
theorem c63:ql Tryz.prog 63=true :=
 qh (by kernel_rfl)
theorem c64:ql Tryz.prog 64=true :=
 qh (by kernel_rfl)
theorem c65:ql Tryz.prog 65=true :=
 qh (by kernel_rfl)
theorem c66:ql Tryz.prog 66=true :=
 qh (by kernel_rfl)
theorem c67:ql Tryz.prog 67=true :=
 qh (by kernel_rfl)
theorem c68:ql Tryz.prog 68=true :=
 qh (by kernel_rfl)
theorem c69:ql Tryz.prog 69=true :=
 qh (by kernel_rfl)
theorem c7:ql Tryz.prog 7=true :=
 qh (by kernel_rfl)
theorem c70:ql Tryz.prog 70=true :=
 qh (by kernel_rfl)
theorem c71:ql Tryz.prog 71=true :=
 qh (by kernel_rfl)
theorem c72:ql Tryz.prog 72=true :=
 qh (by kernel_rfl)
theorem c73:ql Tryz.prog 73=true :=
 qh (by kernel_rfl)
theorem c74:ql Tryz.prog 74=true :=
 qh (by kernel_rfl)
theorem c75:ql Tryz.prog 75=true :=
 qh (by kernel_rfl)
theorem c76:ql Tryz.prog 76=true :=
 qh (by kernel_rfl)
theorem c77:ql Tryz.prog 77=true :=
 qh (by kernel_rfl)
theorem c78:ql Tryz.prog 78=true :=
 qh (by kernel_rfl)
theorem c8:ql Tryz.prog 8=true :=
 qh (by kernel_rfl)
theorem c89:ql Tryz.prog 89=true :=
 qh (by kernel_rfl)
theorem c9:ql Tryz.prog 9=true :=
 qh (by kernel_rfl)
theorem c90:ql Tryz.prog 90=true :=
 qh (by kernel_rfl)
theorem c91:ql Tryz.prog 91=true :=
 qh (by kernel_rfl)
theorem c92:ql Tryz.prog 92=true :=
 qh (by kernel_rfl)
theorem c93:ql Tryz.prog 93=true :=
 qh (by kernel_rfl)
theorem c94:ql Tryz.prog 94=true :=
 qh (by kernel_rfl)
theorem c95:ql Tryz.prog 95=true :=
 qh (by kernel_rfl)
theorem c96:ql Tryz.prog 96=true :=
 qh (by kernel_rfl)
theorem c97:ql Tryz.prog 97=true :=
 qh (by kernel_rfl)
theorem c98:ql Tryz.prog 98=true :=
 qh (by kernel_rfl)
theorem c99:ql Tryz.prog 99=true :=
 qh (by kernel_rfl)
theorem t102:qV Tryz.prog 102=some 1∧xk Tryz.prog 102=some 24∧zN Tryz.prog 102=some false∧z7 Tryz.prog 102=some [.slice none 0 0]∧Tryz.prog.underlying 102=some (.slice 23) :=
 ⟨qh (by kernel_rfl),qh (by kernel_rfl),qh (by kernel_rfl),qh (by kernel_rfl),qh (by kernel_rfl)⟩
theorem t108:qV Tryz.prog 108=some 1∧xk Tryz.prog 108=some 8∧zN Tryz.prog 108=some false∧z7 Tryz.prog 108=some [.nilFunc] :=
 ⟨qh (by kernel_rfl),qh (by kernel_rfl),qh (by kernel_rfl),qh (by kernel_rfl)⟩
theorem t109:qV Tryz.prog 109=some 1∧xk Tryz.prog 109=some 8∧zN Tryz.prog 109=some false∧z7 Tryz.prog 109=some [.map none]∧Tryz.prog.underlying 109=some (.map 3 108)∧yS Tryz.prog 109=some (3,([.i .i64],false),.lit (.nilFunc)) :=
 ⟨qh (by kernel_rfl),qh (by kernel_rfl),qh (by kernel_rfl),qh (by kernel_rfl),qh (by kernel_rfl),qh (by kernel_rfl)⟩
theorem t113:qV Tryz.prog 113=some 1∧xk Tryz.prog 113=some 8∧zN Tryz.prog 113=some false∧z7 Tryz.prog 113=some [.nilFunc] :=
 ⟨qh (by kernel_rfl),qh (by kernel_rfl),qh (by kernel_rfl),qh (by kernel_rfl)⟩
theorem t115:qV Tryz.prog 115=some 1∧xk Tryz.prog 115=some 8∧zN Tryz.prog 115=some false∧z7 Tryz.prog 115=some [.map none]∧Tryz.prog.underlying 115=some (.map 9 4)∧yS Tryz.prog 115=some (9,([.s],false),.lit (.bool false)) :=
 ⟨qh (by kernel_rfl),qh (by kernel_rfl),qh (by kernel_rfl),qh (by kernel_rfl),qh (by kernel_rfl),qh (by kernel_rfl)⟩
theorem t119:qV Tryz.prog 119=some 1∧xk Tryz.prog 119=some 8∧zN Tryz.prog 119=some false∧z7 Tryz.prog 119=some [.nilFunc] :=
 ⟨qh (by kernel_rfl),qh (by kernel_rfl),qh (by kernel_rfl),qh (by kernel_rfl)⟩
theorem t126:qV Tryz.prog 126=some 2∧xk Tryz.prog 126=some 24∧zN Tryz.prog 126=some true∧z7 Tryz.prog 126=some [.string ⟨#[]⟩,.int .i64 0]∧fld Tryz.prog 126 0=some (0,9)∧qp Tryz.prog 126 0=some (0,1)∧fld Tryz.prog 126 1=some (1,3)∧qp Tryz.prog 126 1=some (1,1)∧eqT Tryz.prog 126=some [.s,.i .i64] :=
 ⟨qh (by kernel_rfl),qh (by kernel_rfl),qh (by kernel_rfl),qh (by kernel_rfl),qh (by kernel_rfl),qh (by kernel_rfl),qh (by kernel_rfl),qh (by kernel_rfl),qh (by kernel_rfl)⟩
theorem t128:qV Tryz.prog 128=some 9∧xk Tryz.prog 128=some 176∧zN Tryz.prog 128=some true∧z7 Tryz.prog 128=some [.slice none 0 0,.slice none 0 0,.slice none 0 0,.slice none 0 0,.string ⟨#[]⟩,.string ⟨#[]⟩,.string ⟨#[]⟩,.slice none 0 0,.int .i64 0]∧fld Tryz.prog 128 0=some (0,25)∧qp Tryz.prog 128 0=some (0,4)∧fld Tryz.prog 128 1=some (4,9)∧qp Tryz.prog 128 1=some (4,1)∧fld Tryz.prog 128 2=some (5,63)∧qp Tryz.prog 128 2=some (5,4) :=
 ⟨qh (by kernel_rfl),qh (by kernel_rfl),qh (by kernel_rfl),qh (by kernel_rfl),qh (by kernel_rfl),qh (by kernel_rfl),qh (by kernel_rfl),qh (by kernel_rfl),qh (by kernel_rfl),qh (by kernel_rfl)⟩
theorem t138:qV Tryz.prog 138=some 1∧xk Tryz.prog 138=some 0∧zN Tryz.prog 138=some false :=
 ⟨qh (by kernel_rfl),qh (by kernel_rfl),qh (by kernel_rfl)⟩
theorem t143:qV Tryz.prog 143=some 1∧xk Tryz.prog 143=some 8∧zN Tryz.prog 143=some false∧z7 Tryz.prog 143=some [.int .u64 0]∧Tryz.prog.underlying 143=some (.int .u64) :=
 ⟨qh (by kernel_rfl),qh (by kernel_rfl),qh (by kernel_rfl),qh (by kernel_rfl),qh (by kernel_rfl)⟩
theorem t153:qV Tryz.prog 153=some 1∧xk Tryz.prog 153=some 8∧zN Tryz.prog 153=some false∧z7 Tryz.prog 153=some [.nilFunc] :=
 ⟨qh (by kernel_rfl),qh (by kernel_rfl),qh (by kernel_rfl),qh (by kernel_rfl)⟩
theorem t157:qV Tryz.prog 157=some 1∧xk Tryz.prog 157=some 0∧zN Tryz.prog 157=some false :=
 ⟨qh (by kernel_rfl),qh (by kernel_rfl),qh (by kernel_rfl)⟩
theorem t159:qV Tryz.prog 159=some 1∧xk Tryz.prog 159=some 24∧zN Tryz.prog 159=some false∧z7 Tryz.prog 159=some [.slice none 0 0]∧Tryz.prog.underlying 159=some (.slice 43) :=
 ⟨qh (by kernel_rfl),qh (by kernel_rfl),qh (by kernel_rfl),qh (by kernel_rfl),qh (by kernel_rfl)⟩
theorem t170:qV Tryz.prog 170=some 1∧xk Tryz.prog 170=some 8∧zN Tryz.prog 170=some false∧z7 Tryz.prog 170=some [.nilFunc] :=
 ⟨qh (by kernel_rfl),qh (by kernel_rfl),qh (by kernel_rfl),qh (by kernel_rfl)⟩
theorem t173:qV Tryz.prog 173=some 3∧xk Tryz.prog 173=some 32∧zN Tryz.prog 173=some true∧z7 Tryz.prog 173=some [.int .i64 0,.int .i64 0,.string ⟨#[]⟩]∧fld Tryz.prog 173 0=some (0,35)∧qp Tryz.prog 173 0=some (0,3)∧eqT Tryz.prog 173=some [.i .i64,.i .i64,.s] :=
 ⟨qh (by kernel_rfl),qh (by kernel_rfl),qh (by kernel_rfl),qh (by kernel_rfl),qh (by kernel_rfl),qh (by kernel_rfl),qh (by kernel_rfl)⟩
theorem t174:qV Tryz.prog 174=some 1∧xk Tryz.prog 174=some 8∧zN Tryz.prog 174=some false∧z7 Tryz.prog 174=some [.map none]∧Tryz.prog.underlying 174=some (.map 3 79)∧yS Tryz.prog 174=some (3,([.i .i64],false),.lit (.nilFunc)) :=
 ⟨qh (by kernel_rfl),qh (by kernel_rfl),qh (by kernel_rfl),qh (by kernel_rfl),qh (by kernel_rfl),qh (by kernel_rfl)⟩
theorem t2:qV Tryz.prog 2=some 1∧xk Tryz.prog 2=some 8∧zN Tryz.prog 2=some false∧z7 Tryz.prog 2=some [.int .i64 0]∧Tryz.prog.underlying 2=some (.int .i64) :=
 ⟨qh (by kernel_rfl),qh (by kernel_rfl),qh (by kernel_rfl),qh (by kernel_rfl),qh (by kernel_rfl)⟩
theorem t20:qV Tryz.prog 20=some 1∧xk Tryz.prog 20=some 16∧zN Tryz.prog 20=some false∧z7 Tryz.prog 20=some [.nilIface] :=
 ⟨qh (by kernel_rfl),qh (by kernel_rfl),qh (by kernel_rfl),qh (by kernel_rfl)⟩
theorem t200:qV Tryz.prog 200=some 1∧xk Tryz.prog 200=some 0∧zN Tryz.prog 200=some false :=
 ⟨qh (by kernel_rfl),qh (by kernel_rfl),qh (by kernel_rfl)⟩
theorem t204:qV Tryz.prog 204=some 24∧xk Tryz.prog 204=some 24∧zN Tryz.prog 204=some true∧z7 Tryz.prog 204=some [.int .u8 0,.int .u8 0,.int .u8 0,.int .u8 0,.int .u8 0,.int .u8 0,.int .u8 0,.int .u8 0,.int .u8 0,.int .u8 0,.int .u8 0,.int .u8 0,.int .u8 0,.int .u8 0,.int .u8 0,.int .u8 0,.int .u8 0,.int .u8 0,.int .u8 0,.int .u8 0,.int .u8 0,.int .u8 0,.int .u8 0,.int .u8 0]∧Tryz.prog.underlying 204=some (.array 24 5)∧qp Tryz.prog 204 0=some (0,1)∧qp Tryz.prog 204 1=some (1,1)∧qp Tryz.prog 204 2=some (2,1)∧qp Tryz.prog 204 3=some (3,1)∧qp Tryz.prog 204 4=some (4,1)∧qp Tryz.prog 204 5=some (5,1)∧qp Tryz.prog 204 6=some (6,1)∧qp Tryz.prog 204 7=some (7,1) :=
 ⟨qh (by kernel_rfl),qh (by kernel_rfl),qh (by kernel_rfl),qh (by kernel_rfl),qh (by kernel_rfl),qh (by kernel_rfl),qh (by kernel_rfl),qh (by kernel_rfl),qh (by kernel_rfl),qh (by kernel_rfl),qh (by kernel_rfl),qh (by kernel_rfl),qh (by kernel_rfl)⟩
theorem t206:qV Tryz.prog 206=some 1∧xk Tryz.prog 206=some 0∧zN Tryz.prog 206=some false :=
 ⟨qh (by kernel_rfl),qh (by kernel_rfl),qh (by kernel_rfl)⟩
theorem t216:qV Tryz.prog 216=some 20∧xk Tryz.prog 216=some 160∧zN Tryz.prog 216=some true∧z7 Tryz.prog 216=some [.int .u64 0,.int .u64 0,.int .u64 0,.int .u64 0,.int .u64 0,.int .u64 0,.int .u64 0,.int .u64 0,.int .u64 0,.int .u64 0,.int .u64 0,.int .u64 0,.int .u64 0,.int .u64 0,.int .u64 0,.int .u64 0,.int .u64 0,.int .u64 0,.int .u64 0,.int .u64 0]∧Tryz.prog.underlying 216=some (.array 20 143)∧qp Tryz.prog 216 0=some (0,1)∧qp Tryz.prog 216 1=some (1,1)∧qp Tryz.prog 216 2=some (2,1)∧qp Tryz.prog 216 3=some (3,1)∧qp Tryz.prog 216 4=some (4,1)∧qp Tryz.prog 216 5=some (5,1)∧qp Tryz.prog 216 6=some (6,1)∧qp Tryz.prog 216 7=some (7,1) :=
 ⟨qh (by kernel_rfl),qh (by kernel_rfl),qh (by kernel_rfl),qh (by kernel_rfl),un216,qh (by kernel_rfl),qh (by kernel_rfl),qh (by kernel_rfl),qh (by kernel_rfl),qh (by kernel_rfl),qh (by kernel_rfl),qh (by kernel_rfl),qh (by kernel_rfl)⟩
theorem t22:qV Tryz.prog 22=some 1∧xk Tryz.prog 22=some 24∧zN Tryz.prog 22=some false∧z7 Tryz.prog 22=some [.slice none 0 0]∧Tryz.prog.underlying 22=some (.slice 63) :=
 ⟨qh (by kernel_rfl),qh (by kernel_rfl),qh (by kernel_rfl),qh (by kernel_rfl),un22⟩
theorem t223:qV Tryz.prog 223=some 2∧xk Tryz.prog 223=some 16∧zN Tryz.prog 223=some true∧z7 Tryz.prog 223=some [.int .i64 0,.int .u64 0]∧fld Tryz.prog 223 0=some (0,3)∧qp Tryz.prog 223 0=some (0,1)∧fld Tryz.prog 223 1=some (1,143)∧qp Tryz.prog 223 1=some (1,1)∧eqT Tryz.prog 223=some [.i .i64,.i .u64] :=
 ⟨qh (by kernel_rfl),qh (by kernel_rfl),qh (by kernel_rfl),qh (by kernel_rfl),qh (by kernel_rfl),qh (by kernel_rfl),qh (by kernel_rfl),qh (by kernel_rfl),qh (by kernel_rfl)⟩
theorem t23:qV Tryz.prog 23=some 1∧xk Tryz.prog 23=some 24∧zN Tryz.prog 23=some false∧z7 Tryz.prog 23=some [.slice none 0 0]∧Tryz.prog.underlying 23=some (.slice 45) :=
 ⟨qh (by kernel_rfl),qh (by kernel_rfl),qh (by kernel_rfl),qh (by kernel_rfl),un23⟩
theorem t25:qV Tryz.prog 25=some 4∧xk Tryz.prog 25=some 96∧zN Tryz.prog 25=some true∧z7 Tryz.prog 25=some [.slice none 0 0,.slice none 0 0,.slice none 0 0,.slice none 0 0]∧fld Tryz.prog 25 0=some (0,22)∧qp Tryz.prog 25 0=some (0,1)∧fld Tryz.prog 25 1=some (1,23)∧qp Tryz.prog 25 1=some (1,1)∧fld Tryz.prog 25 2=some (2,23)∧qp Tryz.prog 25 2=some (2,1)∧fld Tryz.prog 25 3=some (3,23)∧qp Tryz.prog 25 3=some (3,1) :=
 ⟨qh (by kernel_rfl),qh (by kernel_rfl),ag25,qh (by kernel_rfl),qh (by kernel_rfl),qh (by kernel_rfl),qh (by kernel_rfl),qh (by kernel_rfl),qh (by kernel_rfl),qh (by kernel_rfl),qh (by kernel_rfl),qh (by kernel_rfl)⟩
theorem t27:qV Tryz.prog 27=some 1∧xk Tryz.prog 27=some 8∧zN Tryz.prog 27=some false∧z7 Tryz.prog 27=some [.int .i64 0]∧Tryz.prog.underlying 27=some (.int .i64) :=
 ⟨qh (by kernel_rfl),qh (by kernel_rfl),qh (by kernel_rfl),qh (by kernel_rfl),qh (by kernel_rfl)⟩
theorem t29:qV Tryz.prog 29=some 1∧xk Tryz.prog 29=some 24∧zN Tryz.prog 29=some false∧z7 Tryz.prog 29=some [.slice none 0 0]∧Tryz.prog.underlying 29=some (.slice 40) :=
 ⟨qh (by kernel_rfl),qh (by kernel_rfl),qh (by kernel_rfl),qh (by kernel_rfl),un29⟩
theorem t3:qV Tryz.prog 3=some 1∧xk Tryz.prog 3=some 8∧zN Tryz.prog 3=some false∧z7 Tryz.prog 3=some [.int .i64 0]∧Tryz.prog.underlying 3=some (.int .i64) :=
 ⟨qh (by kernel_rfl),qh (by kernel_rfl),qh (by kernel_rfl),qh (by kernel_rfl),un3⟩
theorem t31:qV Tryz.prog 31=some 1∧xk Tryz.prog 31=some 24∧zN Tryz.prog 31=some false∧z7 Tryz.prog 31=some [.slice none 0 0]∧Tryz.prog.underlying 31=some (.slice 4) :=
 ⟨qh (by kernel_rfl),qh (by kernel_rfl),qh (by kernel_rfl),qh (by kernel_rfl),qh (by kernel_rfl)⟩
theorem t32:qV Tryz.prog 32=some 1∧xk Tryz.prog 32=some 0∧zN Tryz.prog 32=some false :=
 ⟨qh (by kernel_rfl),qh (by kernel_rfl),qh (by kernel_rfl)⟩
theorem t35:qV Tryz.prog 35=some 3∧xk Tryz.prog 35=some 32∧zN Tryz.prog 35=some true∧z7 Tryz.prog 35=some [.int .i64 0,.int .i64 0,.string ⟨#[]⟩]∧fld Tryz.prog 35 0=some (0,3)∧qp Tryz.prog 35 0=some (0,1)∧fld Tryz.prog 35 1=some (1,3)∧qp Tryz.prog 35 1=some (1,1)∧fld Tryz.prog 35 2=some (2,9)∧qp Tryz.prog 35 2=some (2,1)∧eqT Tryz.prog 35=some [.i .i64,.i .i64,.s] :=
 ⟨qh (by kernel_rfl),qh (by kernel_rfl),qh (by kernel_rfl),qh (by kernel_rfl),qh (by kernel_rfl),qh (by kernel_rfl),qh (by kernel_rfl),qh (by kernel_rfl),qh (by kernel_rfl),qh (by kernel_rfl),qh (by kernel_rfl)⟩
theorem t36:qV Tryz.prog 36=some 1∧xk Tryz.prog 36=some 24∧zN Tryz.prog 36=some false∧z7 Tryz.prog 36=some [.slice none 0 0]∧Tryz.prog.underlying 36=some (.slice 126) :=
 ⟨qh (by kernel_rfl),qh (by kernel_rfl),qh (by kernel_rfl),qh (by kernel_rfl),un36⟩
theorem t38:qV Tryz.prog 38=some 2∧xk Tryz.prog 38=some 16∧zN Tryz.prog 38=some true∧z7 Tryz.prog 38=some [.int .i64 0,.int .i64 0]∧fld Tryz.prog 38 0=some (0,3)∧qp Tryz.prog 38 0=some (0,1)∧fld Tryz.prog 38 1=some (1,3)∧qp Tryz.prog 38 1=some (1,1)∧eqT Tryz.prog 38=some [.i .i64,.i .i64] :=
 ⟨qh (by kernel_rfl),qh (by kernel_rfl),qh (by kernel_rfl),qh (by kernel_rfl),qh (by kernel_rfl),qh (by kernel_rfl),qh (by kernel_rfl),qh (by kernel_rfl),qh (by kernel_rfl)⟩
theorem t4:qV Tryz.prog 4=some 1∧xk Tryz.prog 4=some 1∧zN Tryz.prog 4=some false∧z7 Tryz.prog 4=some [.bool false]∧Tryz.prog.underlying 4=some .bool :=
 ⟨qh (by kernel_rfl),qh (by kernel_rfl),qh (by kernel_rfl),qh (by kernel_rfl),un4⟩
theorem t40:qV Tryz.prog 40=some 12∧xk Tryz.prog 40=some 160∧zN Tryz.prog 40=some true∧z7 Tryz.prog 40=some [.int .i64 0,.string ⟨#[]⟩,.string ⟨#[]⟩,.string ⟨#[]⟩,.int .i64 0,.int .i64 0,.string ⟨#[]⟩,.slice none 0 0,.int .i64 0,.int .i64 0,.int .i64 0,.slice none 0 0]∧fld Tryz.prog 40 0=some (0,3)∧qp Tryz.prog 40 0=some (0,1)∧fld Tryz.prog 40 1=some (1,9)∧qp Tryz.prog 40 1=some (1,1)∧fld Tryz.prog 40 2=some (2,9)∧qp Tryz.prog 40 2=some (2,1)∧fld Tryz.prog 40 3=some (3,9)∧qp Tryz.prog 40 3=some (3,1)∧fld Tryz.prog 40 4=some (4,35)∧qp Tryz.prog 40 4=some (4,3)∧fld Tryz.prog 40 5=some (7,36)∧qp Tryz.prog 40 5=some (7,1)∧fld Tryz.prog 40 6=some (8,3)∧qp Tryz.prog 40 6=some (8,1)∧fld Tryz.prog 40 7=some (9,38)∧qp Tryz.prog 40 7=some (9,2)∧fld Tryz.prog 40 8=some (11,29)∧qp Tryz.prog 40 8=some (11,1) :=
 ⟨qh (by kernel_rfl),qh (by kernel_rfl),qh (by kernel_rfl),qh (by kernel_rfl),qh (by kernel_rfl),qh (by kernel_rfl),qh (by kernel_rfl),qh (by kernel_rfl),qh (by kernel_rfl),qh (by kernel_rfl),qh (by kernel_rfl),qh (by kernel_rfl),qh (by kernel_rfl),qh (by kernel_rfl),qh (by kernel_rfl),qh (by kernel_rfl),qh (by kernel_rfl),qh (by kernel_rfl),qh (by kernel_rfl),qh (by kernel_rfl),qh (by kernel_rfl),qh (by kernel_rfl)⟩
theorem t43:qV Tryz.prog 43=some 3∧xk Tryz.prog 43=some 48∧zN Tryz.prog 43=some true∧z7 Tryz.prog 43=some [.int .i64 0,.slice none 0 0,.string ⟨#[]⟩]∧fld Tryz.prog 43 0=some (0,3)∧qp Tryz.prog 43 0=some (0,1)∧fld Tryz.prog 43 1=some (1,36)∧qp Tryz.prog 43 1=some (1,1)∧fld Tryz.prog 43 2=some (2,9)∧qp Tryz.prog 43 2=some (2,1) :=
 ⟨qh (by kernel_rfl),qh (by kernel_rfl),qh (by kernel_rfl),qh (by kernel_rfl),qh (by kernel_rfl),qh (by kernel_rfl),qh (by kernel_rfl),qh (by kernel_rfl),qh (by kernel_rfl),qh (by kernel_rfl)⟩
theorem t45:qV Tryz.prog 45=some 18∧xk Tryz.prog 45=some 248∧zN Tryz.prog 45=some true∧z7 Tryz.prog 45=some [.string ⟨#[]⟩,.string ⟨#[]⟩,.int .i64 0,.slice none 0 0,.string ⟨#[]⟩,.int .i64 0,.string ⟨#[]⟩,.string ⟨#[]⟩,.string ⟨#[]⟩,.int .i64 0,.int .i64 0,.string ⟨#[]⟩,.slice none 0 0,.int .i64 0,.int .i64 0,.int .i64 0,.slice none 0 0,.int .i64 0]∧fld Tryz.prog 45 0=some (0,9)∧qp Tryz.prog 45 0=some (0,1)∧fld Tryz.prog 45 1=some (1,9)∧qp Tryz.prog 45 1=some (1,1)∧fld Tryz.prog 45 2=some (2,43)∧qp Tryz.prog 45 2=some (2,3)∧fld Tryz.prog 45 3=some (5,40)∧qp Tryz.prog 45 3=some (5,12)∧fld Tryz.prog 45 4=some (17,3)∧qp Tryz.prog 45 4=some (17,1) :=
 ⟨sz45,by45,qh (by kernel_rfl),zr45,qh (by kernel_rfl),qh (by kernel_rfl),qh (by kernel_rfl),qh (by kernel_rfl),qh (by kernel_rfl),qh (by kernel_rfl),qh (by kernel_rfl),qh (by kernel_rfl),qh (by kernel_rfl),qh (by kernel_rfl)⟩
theorem t46:qV Tryz.prog 46=some 1∧xk Tryz.prog 46=some 8∧zN Tryz.prog 46=some false∧z7 Tryz.prog 46=some [.nilFunc] :=
 ⟨qh (by kernel_rfl),qh (by kernel_rfl),qh (by kernel_rfl),qh (by kernel_rfl)⟩
theorem t5:qV Tryz.prog 5=some 1∧xk Tryz.prog 5=some 1∧zN Tryz.prog 5=some false∧z7 Tryz.prog 5=some [.int .u8 0]∧Tryz.prog.underlying 5=some (.int .u8) :=
 ⟨qh (by kernel_rfl),qh (by kernel_rfl),qh (by kernel_rfl),qh (by kernel_rfl),qh (by kernel_rfl)⟩
theorem t50:qV Tryz.prog 50=some 1∧xk Tryz.prog 50=some 24∧zN Tryz.prog 50=some false∧z7 Tryz.prog 50=some [.slice none 0 0]∧Tryz.prog.underlying 50=some (.slice 58) :=
 ⟨qh (by kernel_rfl),qh (by kernel_rfl),qh (by kernel_rfl),qh (by kernel_rfl),qh (by kernel_rfl)⟩
theorem t52:qV Tryz.prog 52=some 1∧xk Tryz.prog 52=some 24∧zN Tryz.prog 52=some true∧z7 Tryz.prog 52=some [.slice none 0 0]∧Ku Tryz.prog 52=true∧fld Tryz.prog 52 0=some (0,50)∧qp Tryz.prog 52 0=some (0,1) :=
 ⟨qh (by kernel_rfl),qh (by kernel_rfl),qh (by kernel_rfl),qh (by kernel_rfl),qh (by kernel_rfl),qh (by kernel_rfl),qh (by kernel_rfl)⟩
theorem t53:qV Tryz.prog 53=some 1∧xk Tryz.prog 53=some 0∧zN Tryz.prog 53=some false :=
 ⟨qh (by kernel_rfl),qh (by kernel_rfl),qh (by kernel_rfl)⟩
theorem t56:qV Tryz.prog 56=some 1∧xk Tryz.prog 56=some 24∧zN Tryz.prog 56=some false∧z7 Tryz.prog 56=some [.slice none 0 0]∧Tryz.prog.underlying 56=some (.slice 3) :=
 ⟨qh (by kernel_rfl),qh (by kernel_rfl),qh (by kernel_rfl),qh (by kernel_rfl),qh (by kernel_rfl)⟩
theorem t58:qV Tryz.prog 58=some 23∧xk Tryz.prog 58=some 296∧zN Tryz.prog 58=some true∧z7 Tryz.prog 58=some [.int .i64 0,.string ⟨#[]⟩,.int .i64 0,.string ⟨#[]⟩,.string ⟨#[]⟩,.string ⟨#[]⟩,.int .i64 0,.int .i64 0,.string ⟨#[]⟩,.slice none 0 0,.int .i64 0,.int .i64 0,.int .i64 0,.slice none 0 0,.string ⟨#[]⟩,.int .i64 0,.int .i64 0,.int .i64 0,.int .i64 0,.int .i64 0,.string ⟨#[]⟩,.string ⟨#[]⟩,.slice none 0 0]∧fld Tryz.prog 58 0=some (0,3)∧qp Tryz.prog 58 0=some (0,1)∧fld Tryz.prog 58 1=some (1,9)∧qp Tryz.prog 58 1=some (1,1)∧fld Tryz.prog 58 2=some (2,40)∧qp Tryz.prog 58 2=some (2,12)∧fld Tryz.prog 58 3=some (14,9)∧qp Tryz.prog 58 3=some (14,1)∧fld Tryz.prog 58 4=some (15,3)∧qp Tryz.prog 58 4=some (15,1)∧fld Tryz.prog 58 5=some (16,38)∧qp Tryz.prog 58 5=some (16,2)∧fld Tryz.prog 58 6=some (18,35)∧qp Tryz.prog 58 6=some (18,3)∧fld Tryz.prog 58 7=some (21,9)∧qp Tryz.prog 58 7=some (21,1)∧fld Tryz.prog 58 8=some (22,56)∧qp Tryz.prog 58 8=some (22,1) :=
 ⟨qh (by kernel_rfl),qh (by kernel_rfl),qh (by kernel_rfl),qh (by kernel_rfl),qh (by kernel_rfl),qh (by kernel_rfl),qh (by kernel_rfl),qh (by kernel_rfl),qh (by kernel_rfl),qh (by kernel_rfl),qh (by kernel_rfl),qh (by kernel_rfl),qh (by kernel_rfl),qh (by kernel_rfl),qh (by kernel_rfl),qh (by kernel_rfl),qh (by kernel_rfl),qh (by kernel_rfl),qh (by kernel_rfl),qh (by kernel_rfl),qh (by kernel_rfl),qh (by kernel_rfl)⟩
theorem t60:qV Tryz.prog 60=some 4∧xk Tryz.prog 60=some 64∧zN Tryz.prog 60=some true∧z7 Tryz.prog 60=some [.string ⟨#[]⟩,.int .i64 0,.slice none 0 0,.string ⟨#[]⟩]∧fld Tryz.prog 60 0=some (0,9)∧qp Tryz.prog 60 0=some (0,1)∧fld Tryz.prog 60 1=some (1,43)∧qp Tryz.prog 60 1=some (1,3) :=
 ⟨qh (by kernel_rfl),qh (by kernel_rfl),qh (by kernel_rfl),qh (by kernel_rfl),qh (by kernel_rfl),qh (by kernel_rfl),qh (by kernel_rfl),qh (by kernel_rfl)⟩
theorem t61:qV Tryz.prog 61=some 1∧xk Tryz.prog 61=some 24∧zN Tryz.prog 61=some false∧z7 Tryz.prog 61=some [.slice none 0 0]∧Tryz.prog.underlying 61=some (.slice 60) :=
 ⟨qh (by kernel_rfl),qh (by kernel_rfl),qh (by kernel_rfl),qh (by kernel_rfl),un61⟩
theorem t63:qV Tryz.prog 63=some 4∧xk Tryz.prog 63=some 64∧zN Tryz.prog 63=some true∧z7 Tryz.prog 63=some [.string ⟨#[]⟩,.string ⟨#[]⟩,.slice none 0 0,.int .i64 0]∧fld Tryz.prog 63 0=some (0,9)∧qp Tryz.prog 63 0=some (0,1)∧fld Tryz.prog 63 1=some (1,9)∧qp Tryz.prog 63 1=some (1,1)∧fld Tryz.prog 63 2=some (2,61)∧qp Tryz.prog 63 2=some (2,1)∧fld Tryz.prog 63 3=some (3,3)∧qp Tryz.prog 63 3=some (3,1) :=
 ⟨qh (by kernel_rfl),qh (by kernel_rfl),qh (by kernel_rfl),qh (by kernel_rfl),qh (by kernel_rfl),qh (by kernel_rfl),qh (by kernel_rfl),qh (by kernel_rfl),qh (by kernel_rfl),qh (by kernel_rfl),qh (by kernel_rfl),qh (by kernel_rfl)⟩
theorem t69:qV Tryz.prog 69=some 1∧xk Tryz.prog 69=some 24∧zN Tryz.prog 69=some false∧z7 Tryz.prog 69=some [.slice none 0 0]∧Tryz.prog.underlying 69=some (.slice 9) :=
 ⟨qh (by kernel_rfl),qh (by kernel_rfl),qh (by kernel_rfl),qh (by kernel_rfl),qh (by kernel_rfl)⟩
theorem t71:qV Tryz.prog 71=some 1∧xk Tryz.prog 71=some 8∧zN Tryz.prog 71=some false∧z7 Tryz.prog 71=some [.map none]∧Tryz.prog.underlying 71=some (.map 9 40)∧yS Tryz.prog 71=some (9,([.s],false),.agg [.lit (.int .i64 0),.lit (.string ⟨#[]⟩),.lit (.string ⟨#[]⟩),.lit (.string ⟨#[]⟩),.lit (.int .i64 0),.lit (.int .i64 0),.lit (.string ⟨#[]⟩),.lit (.slice none 0 0),.lit (.int .i64 0),.lit (.int .i64 0),.lit (.int .i64 0),.lit (.slice none 0 0)]) :=
 ⟨qh (by kernel_rfl),qh (by kernel_rfl),qh (by kernel_rfl),qh (by kernel_rfl),qh (by kernel_rfl),qh (by kernel_rfl)⟩
theorem t74:qV Tryz.prog 74=some 1∧xk Tryz.prog 74=some 8∧zN Tryz.prog 74=some false∧z7 Tryz.prog 74=some [.nilFunc] :=
 ⟨qh (by kernel_rfl),qh (by kernel_rfl),qh (by kernel_rfl),qh (by kernel_rfl)⟩
theorem t78:qV Tryz.prog 78=some 12∧xk Tryz.prog 78=some 160∧zN Tryz.prog 78=some true∧z7 Tryz.prog 78=some [.int .i64 0,.string ⟨#[]⟩,.string ⟨#[]⟩,.string ⟨#[]⟩,.int .i64 0,.int .i64 0,.string ⟨#[]⟩,.slice none 0 0,.int .i64 0,.int .i64 0,.int .i64 0,.slice none 0 0]∧fld Tryz.prog 78 0=some (0,40)∧qp Tryz.prog 78 0=some (0,12) :=
 ⟨qh (by kernel_rfl),qh (by kernel_rfl),qh (by kernel_rfl),qh (by kernel_rfl),qh (by kernel_rfl),qh (by kernel_rfl)⟩
theorem t79:qV Tryz.prog 79=some 1∧xk Tryz.prog 79=some 8∧zN Tryz.prog 79=some false∧z7 Tryz.prog 79=some [.nilFunc] :=
 ⟨qh (by kernel_rfl),qh (by kernel_rfl),qh (by kernel_rfl),qh (by kernel_rfl)⟩
theorem t80:qV Tryz.prog 80=some 1∧xk Tryz.prog 80=some 8∧zN Tryz.prog 80=some false∧z7 Tryz.prog 80=some [.pointer none]∧Tryz.prog.underlying 80=some (.pointer 83) :=
 ⟨qh (by kernel_rfl),qh (by kernel_rfl),qh (by kernel_rfl),qh (by kernel_rfl),qh (by kernel_rfl)⟩
theorem t81:qV Tryz.prog 81=some 1∧xk Tryz.prog 81=some 8∧zN Tryz.prog 81=some false∧z7 Tryz.prog 81=some [.nilFunc] :=
 ⟨qh (by kernel_rfl),qh (by kernel_rfl),qh (by kernel_rfl),qh (by kernel_rfl)⟩
theorem t83:qV Tryz.prog 83=some 2∧xk Tryz.prog 83=some 32∧zN Tryz.prog 83=some true∧z7 Tryz.prog 83=some [.slice none 0 0,.nilFunc]∧fld Tryz.prog 83 0=some (0,50)∧qp Tryz.prog 83 0=some (0,1)∧fld Tryz.prog 83 1=some (1,81)∧qp Tryz.prog 83 1=some (1,1) :=
 ⟨qh (by kernel_rfl),qh (by kernel_rfl),qh (by kernel_rfl),qh (by kernel_rfl),qh (by kernel_rfl),qh (by kernel_rfl),qh (by kernel_rfl),qh (by kernel_rfl)⟩
theorem t84:qV Tryz.prog 84=some 1∧xk Tryz.prog 84=some 8∧zN Tryz.prog 84=some false∧z7 Tryz.prog 84=some [.nilFunc] :=
 ⟨qh (by kernel_rfl),qh (by kernel_rfl),qh (by kernel_rfl),qh (by kernel_rfl)⟩
theorem t87:qV Tryz.prog 87=some 1∧xk Tryz.prog 87=some 0∧zN Tryz.prog 87=some false :=
 ⟨qh (by kernel_rfl),qh (by kernel_rfl),qh (by kernel_rfl)⟩
theorem t89:qV Tryz.prog 89=some 1∧xk Tryz.prog 89=some 0∧zN Tryz.prog 89=some false :=
 ⟨qh (by kernel_rfl),qh (by kernel_rfl),qh (by kernel_rfl)⟩
theorem t9:qV Tryz.prog 9=some 1∧xk Tryz.prog 9=some 16∧zN Tryz.prog 9=some false∧z7 Tryz.prog 9=some [.string ⟨#[]⟩]∧Tryz.prog.underlying 9=some .string :=
 ⟨qh (by kernel_rfl),qh (by kernel_rfl),qh (by kernel_rfl),qh (by kernel_rfl),un9⟩
theorem t91:qV Tryz.prog 91=some 1∧xk Tryz.prog 91=some 24∧zN Tryz.prog 91=some false∧z7 Tryz.prog 91=some [.slice none 0 0]∧Tryz.prog.underlying 91=some (.slice 5) :=
 ⟨qh (by kernel_rfl),qh (by kernel_rfl),qh (by kernel_rfl),qh (by kernel_rfl),qh (by kernel_rfl)⟩
theorem t93:qV Tryz.prog 93=some 1∧xk Tryz.prog 93=some 8∧zN Tryz.prog 93=some false∧z7 Tryz.prog 93=some [.nilFunc] :=
 ⟨qh (by kernel_rfl),qh (by kernel_rfl),qh (by kernel_rfl),qh (by kernel_rfl)⟩
theorem t95:qV Tryz.prog 95=some 1∧xk Tryz.prog 95=some 0∧zN Tryz.prog 95=some false :=
 ⟨qh (by kernel_rfl),qh (by kernel_rfl),qh (by kernel_rfl)⟩
theorem t98:qV Tryz.prog 98=some 1∧xk Tryz.prog 98=some 24∧zN Tryz.prog 98=some false∧z7 Tryz.prog 98=some [.slice none 0 0]∧Tryz.prog.underlying 98=some (.slice 56) :=
 ⟨qh (by kernel_rfl),qh (by kernel_rfl),qh (by kernel_rfl),qh (by kernel_rfl),qh (by kernel_rfl)⟩
theorem t99:qV Tryz.prog 99=some 1∧xk Tryz.prog 99=some 0∧zN Tryz.prog 99=some false :=
 ⟨qh (by kernel_rfl),qh (by kernel_rfl),qh (by kernel_rfl)⟩
end Go.Proofs.YtohdpcjaoiebkaaGreatDoor.Ty
theorem Go.VL.aI {a b:Prop} (x:a) (y:b):a∧b:=⟨x,y⟩
