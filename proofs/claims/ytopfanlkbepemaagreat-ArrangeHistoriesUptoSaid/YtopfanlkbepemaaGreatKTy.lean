/- Merged out of my text Ty. -/
import Derived.Test.YtopfanlkbepemaaGreatProg
import Derived.Test.YtopfanlkbepemaaGreatKVE
import Derived.KernelRfl
namespace Go.Proofs.YtopfanlkbepemaaGreat.Ty
open Go.VL Go.Proofs
theorem mixed:Tryz.prog.follows .mixedOrders=true:=eqq (by kernel_rfl)
theorem ag3:tag Tryz.prog 3=some false:=eqq (by kernel_rfl)
theorem un3:Tryz.prog.underlying 3=some (.int .i64):=eqq (by kernel_rfl)
theorem un4:Tryz.prog.underlying 4=some .bool:=eqq (by kernel_rfl)
theorem ag9:tag Tryz.prog 9=some false:=eqq (by kernel_rfl)
theorem un9:Tryz.prog.underlying 9=some .string:=eqq (by kernel_rfl)
theorem ag22:tag Tryz.prog 22=some false:=eqq (by kernel_rfl)
theorem un22:Tryz.prog.underlying 22=some (.slice 96):=eqq (by kernel_rfl)
theorem ag24:tag Tryz.prog 24=some true:=eqq (by kernel_rfl)
theorem un41:Tryz.prog.underlying 41=some (.slice 85):=eqq (by kernel_rfl)
theorem un78:Tryz.prog.underlying 78=some (.slice 156):=eqq (by kernel_rfl)
theorem un81:Tryz.prog.underlying 81=some (.slice 231):=eqq (by kernel_rfl)
theorem un88:Tryz.prog.underlying 88=some (.slice 90):=eqq (by kernel_rfl)
theorem cb76:callB Tryz.prog 76=true:=eqq (by kernel_rfl)
theorem c10:callB Tryz.prog 10=true :=
 eqq (by kernel_rfl)
theorem c100:callB Tryz.prog 100=true :=
 eqq (by kernel_rfl)
theorem c101:callB Tryz.prog 101=true :=
 eqq (by kernel_rfl)
theorem c102:callB Tryz.prog 102=true :=
 eqq (by kernel_rfl)
theorem c103:callB Tryz.prog 103=true :=
 eqq (by kernel_rfl)
theorem c104:callB Tryz.prog 104=true :=
 eqq (by kernel_rfl)
theorem c105:callB Tryz.prog 105=true :=
 eqq (by kernel_rfl)
theorem c11:callB Tryz.prog 11=true :=
 eqq (by kernel_rfl)
theorem c114:callB Tryz.prog 114=true :=
 eqq (by kernel_rfl)
theorem c12:callB Tryz.prog 12=true :=
 eqq (by kernel_rfl)
theorem c120:callB Tryz.prog 120=false :=
 eqq (by kernel_rfl)
theorem c121:callB Tryz.prog 121=true :=
 eqq (by kernel_rfl)
theorem c122:callB Tryz.prog 122=true :=
 eqq (by kernel_rfl)
theorem c123:callB Tryz.prog 123=true :=
 eqq (by kernel_rfl)
theorem c124:callB Tryz.prog 124=true :=
 eqq (by kernel_rfl)
theorem c125:callB Tryz.prog 125=true :=
 eqq (by kernel_rfl)
theorem c126:callB Tryz.prog 126=true :=
 eqq (by kernel_rfl)
theorem c127:callB Tryz.prog 127=true :=
 eqq (by kernel_rfl)
theorem c128:callB Tryz.prog 128=true :=
 eqq (by kernel_rfl)
theorem c129:callB Tryz.prog 129=true :=
 eqq (by kernel_rfl)
theorem c13:callB Tryz.prog 13=true :=
 eqq (by kernel_rfl)
theorem c130:callB Tryz.prog 130=true :=
 eqq (by kernel_rfl)
theorem c131:callB Tryz.prog 131=true :=
 eqq (by kernel_rfl)
theorem c132:callB Tryz.prog 132=true :=
 eqq (by kernel_rfl)
theorem c133:callB Tryz.prog 133=true :=
 eqq (by kernel_rfl)
theorem c134:callB Tryz.prog 134=true :=
 eqq (by kernel_rfl)
theorem c135:callB Tryz.prog 135=true :=
 eqq (by kernel_rfl)
theorem c136:callB Tryz.prog 136=true :=
 eqq (by kernel_rfl)
theorem c137:callB Tryz.prog 137=true :=
 eqq (by kernel_rfl)
theorem c138:callB Tryz.prog 138=true :=
 eqq (by kernel_rfl)
theorem c139:callB Tryz.prog 139=true :=
 eqq (by kernel_rfl)
theorem c14:callB Tryz.prog 14=true :=
 eqq (by kernel_rfl)
theorem c143:callB Tryz.prog 143=false :=
 eqq (by kernel_rfl)
theorem c146:callB Tryz.prog 146=true :=
 eqq (by kernel_rfl)
theorem c147:callB Tryz.prog 147=true :=
 eqq (by kernel_rfl)
theorem c148:callB Tryz.prog 148=true :=
 eqq (by kernel_rfl)
theorem c149:callB Tryz.prog 149=true :=
 eqq (by kernel_rfl)
theorem c15:callB Tryz.prog 15=true :=
 eqq (by kernel_rfl)
theorem c150:callB Tryz.prog 150=true :=
 eqq (by kernel_rfl)
theorem c151:callB Tryz.prog 151=true :=
 eqq (by kernel_rfl)
theorem c152:callB Tryz.prog 152=true :=
 eqq (by kernel_rfl)
theorem c153:callB Tryz.prog 153=true :=
 eqq (by kernel_rfl)
theorem c154:callB Tryz.prog 154=true :=
 eqq (by kernel_rfl)
theorem c155:callB Tryz.prog 155=true :=
 eqq (by kernel_rfl)
theorem c156:callB Tryz.prog 156=true :=
 eqq (by kernel_rfl)
theorem c157:callB Tryz.prog 157=true :=
 eqq (by kernel_rfl)
theorem c158:callB Tryz.prog 158=true :=
 eqq (by kernel_rfl)
theorem c159:callB Tryz.prog 159=true :=
 eqq (by kernel_rfl)
theorem c16:callB Tryz.prog 16=true :=
 eqq (by kernel_rfl)
theorem c162:callB Tryz.prog 162=true :=
 eqq (by kernel_rfl)
theorem c163:callB Tryz.prog 163=true :=
 eqq (by kernel_rfl)
theorem c164:callB Tryz.prog 164=true :=
 eqq (by kernel_rfl)
theorem c165:callB Tryz.prog 165=true :=
 eqq (by kernel_rfl)
theorem c166:callB Tryz.prog 166=true :=
 eqq (by kernel_rfl)
theorem c167:callB Tryz.prog 167=true :=
 eqq (by kernel_rfl)
theorem c168:callB Tryz.prog 168=true :=
 eqq (by kernel_rfl)
theorem c169:callB Tryz.prog 169=true :=
 eqq (by kernel_rfl)
theorem c17:callB Tryz.prog 17=true :=
 eqq (by kernel_rfl)
theorem c170:callB Tryz.prog 170=true :=
 eqq (by kernel_rfl)
theorem c171:callB Tryz.prog 171=true :=
 eqq (by kernel_rfl)
theorem c172:callB Tryz.prog 172=true :=
 eqq (by kernel_rfl)
theorem c173:callB Tryz.prog 173=true :=
 eqq (by kernel_rfl)
theorem c174:callB Tryz.prog 174=true :=
 eqq (by kernel_rfl)
theorem c175:callB Tryz.prog 175=true :=
 eqq (by kernel_rfl)
theorem c176:callB Tryz.prog 176=true :=
 eqq (by kernel_rfl)
theorem c177:callB Tryz.prog 177=true :=
 eqq (by kernel_rfl)
theorem c178:callB Tryz.prog 178=true :=
 eqq (by kernel_rfl)
theorem c179:callB Tryz.prog 179=true :=
 eqq (by kernel_rfl)
theorem c18:callB Tryz.prog 18=true :=
 eqq (by kernel_rfl)
theorem c180:callB Tryz.prog 180=true :=
 eqq (by kernel_rfl)
theorem c181:callB Tryz.prog 181=true :=
 eqq (by kernel_rfl)
theorem c182:callB Tryz.prog 182=true :=
 eqq (by kernel_rfl)
theorem c183:callB Tryz.prog 183=true :=
 eqq (by kernel_rfl)
theorem c184:callB Tryz.prog 184=true :=
 eqq (by kernel_rfl)
theorem c185:callB Tryz.prog 185=true :=
 eqq (by kernel_rfl)
theorem c186:callB Tryz.prog 186=true :=
 eqq (by kernel_rfl)
theorem c187:callB Tryz.prog 187=true :=
 eqq (by kernel_rfl)
theorem c188:callB Tryz.prog 188=true :=
 eqq (by kernel_rfl)
theorem c189:callB Tryz.prog 189=true :=
 eqq (by kernel_rfl)
theorem c19:callB Tryz.prog 19=true :=
 eqq (by kernel_rfl)
theorem c190:callB Tryz.prog 190=true :=
 eqq (by kernel_rfl)
theorem c191:callB Tryz.prog 191=true :=
 eqq (by kernel_rfl)
theorem c192:callB Tryz.prog 192=true :=
 eqq (by kernel_rfl)
theorem c193:callB Tryz.prog 193=true :=
 eqq (by kernel_rfl)
theorem c194:callB Tryz.prog 194=true :=
 eqq (by kernel_rfl)
theorem c195:callB Tryz.prog 195=true :=
 eqq (by kernel_rfl)
theorem c196:callB Tryz.prog 196=true :=
 eqq (by kernel_rfl)
theorem c197:callB Tryz.prog 197=true :=
 eqq (by kernel_rfl)
theorem c198:callB Tryz.prog 198=true :=
 eqq (by kernel_rfl)
theorem c199:callB Tryz.prog 199=true :=
 eqq (by kernel_rfl)
theorem c20:callB Tryz.prog 20=true :=
 eqq (by kernel_rfl)
theorem c200:callB Tryz.prog 200=true :=
 eqq (by kernel_rfl)
theorem c201:callB Tryz.prog 201=true :=
 eqq (by kernel_rfl)
theorem c202:callB Tryz.prog 202=true :=
 eqq (by kernel_rfl)
theorem c21:callB Tryz.prog 21=true :=
 eqq (by kernel_rfl)
theorem c22:callB Tryz.prog 22=true :=
 eqq (by kernel_rfl)
theorem c23:callB Tryz.prog 23=true :=
 eqq (by kernel_rfl)
theorem c24:callB Tryz.prog 24=true :=
 eqq (by kernel_rfl)
theorem c25:callB Tryz.prog 25=true :=
 eqq (by kernel_rfl)
theorem c26:callB Tryz.prog 26=true :=
 eqq (by kernel_rfl)
theorem c27:callB Tryz.prog 27=true :=
 eqq (by kernel_rfl)
theorem c28:callB Tryz.prog 28=true :=
 eqq (by kernel_rfl)
theorem c29:callB Tryz.prog 29=true :=
 eqq (by kernel_rfl)
theorem c30:callB Tryz.prog 30=true :=
 eqq (by kernel_rfl)
theorem c31:callB Tryz.prog 31=true :=
 eqq (by kernel_rfl)
theorem c32:callB Tryz.prog 32=true :=
 eqq (by kernel_rfl)
theorem c33:callB Tryz.prog 33=true :=
 eqq (by kernel_rfl)
theorem c34:callB Tryz.prog 34=true :=
 eqq (by kernel_rfl)
theorem c35:callB Tryz.prog 35=true :=
 eqq (by kernel_rfl)
theorem c36:callB Tryz.prog 36=true :=
 eqq (by kernel_rfl)
theorem c37:callB Tryz.prog 37=true :=
 eqq (by kernel_rfl)
theorem c38:callB Tryz.prog 38=true :=
 eqq (by kernel_rfl)
theorem c39:callB Tryz.prog 39=true :=
 eqq (by kernel_rfl)
theorem c4:callB Tryz.prog 4=true :=
 eqq (by kernel_rfl)
theorem c40:callB Tryz.prog 40=true :=
 eqq (by kernel_rfl)
theorem c41:callB Tryz.prog 41=true :=
 eqq (by kernel_rfl)
theorem c42:callB Tryz.prog 42=true :=
 eqq (by kernel_rfl)
theorem c43:callB Tryz.prog 43=true :=
 eqq (by kernel_rfl)
theorem c44:callB Tryz.prog 44=true :=
 eqq (by kernel_rfl)
theorem c45:callB Tryz.prog 45=true :=
 eqq (by kernel_rfl)
theorem c46:callB Tryz.prog 46=true :=
 eqq (by kernel_rfl)
theorem c47:callB Tryz.prog 47=true :=
 eqq (by kernel_rfl)
theorem c48:callB Tryz.prog 48=true :=
 eqq (by kernel_rfl)
theorem c49:callB Tryz.prog 49=true :=
 eqq (by kernel_rfl)
theorem c5:callB Tryz.prog 5=true :=
 eqq (by kernel_rfl)
theorem c52:callB Tryz.prog 52=true :=
 eqq (by kernel_rfl)
theorem c53:callB Tryz.prog 53=true :=
 eqq (by kernel_rfl)
theorem c54:callB Tryz.prog 54=true :=
 eqq (by kernel_rfl)
theorem c55:callB Tryz.prog 55=true :=
 eqq (by kernel_rfl)
theorem c56:callB Tryz.prog 56=true :=
 eqq (by kernel_rfl)
theorem c57:callB Tryz.prog 57=true :=
 eqq (by kernel_rfl)
theorem c58:callB Tryz.prog 58=true :=
 eqq (by kernel_rfl)
theorem c59:callB Tryz.prog 59=true :=
 eqq (by kernel_rfl)
theorem c6:callB Tryz.prog 6=true :=
 eqq (by kernel_rfl)
theorem c60:callB Tryz.prog 60=true :=
 eqq (by kernel_rfl)
theorem c61:callB Tryz.prog 61=true :=
 eqq (by kernel_rfl)
theorem c62:callB Tryz.prog 62=true :=
 eqq (by kernel_rfl)
theorem c63:callB Tryz.prog 63=true :=
 eqq (by kernel_rfl)
theorem c64:callB Tryz.prog 64=true :=
 eqq (by kernel_rfl)
theorem c65:callB Tryz.prog 65=true :=
 eqq (by kernel_rfl)
theorem c66:callB Tryz.prog 66=true :=
 eqq (by kernel_rfl)
theorem c67:callB Tryz.prog 67=true :=
 eqq (by kernel_rfl)
theorem c68:callB Tryz.prog 68=true :=
 eqq (by kernel_rfl)
theorem c69:callB Tryz.prog 69=true :=
 eqq (by kernel_rfl)
theorem c7:callB Tryz.prog 7=true :=
 eqq (by kernel_rfl)
theorem c70:callB Tryz.prog 70=true :=
 eqq (by kernel_rfl)
theorem c72:callB Tryz.prog 72=true :=
 eqq (by kernel_rfl)
theorem c73:callB Tryz.prog 73=true :=
 eqq (by kernel_rfl)
theorem c74:callB Tryz.prog 74=true :=
 eqq (by kernel_rfl)
theorem c75:callB Tryz.prog 75=true :=
 eqq (by kernel_rfl)
theorem c76:callB Tryz.prog 76=true :=
 cb76
theorem c8:callB Tryz.prog 8=true :=
 eqq (by kernel_rfl)
theorem c87:callB Tryz.prog 87=true :=
 eqq (by kernel_rfl)
theorem c88:callB Tryz.prog 88=true :=
 eqq (by kernel_rfl)
theorem c89:callB Tryz.prog 89=true :=
 eqq (by kernel_rfl)
theorem c9:callB Tryz.prog 9=true :=
 eqq (by kernel_rfl)
theorem c90:callB Tryz.prog 90=true :=
 eqq (by kernel_rfl)
theorem c91:callB Tryz.prog 91=true :=
 eqq (by kernel_rfl)
theorem c92:callB Tryz.prog 92=true :=
 eqq (by kernel_rfl)
theorem c93:callB Tryz.prog 93=true :=
 eqq (by kernel_rfl)
theorem c94:callB Tryz.prog 94=true :=
 eqq (by kernel_rfl)
theorem c95:callB Tryz.prog 95=true :=
 eqq (by kernel_rfl)
theorem c96:callB Tryz.prog 96=true :=
 eqq (by kernel_rfl)
theorem c97:callB Tryz.prog 97=true :=
 eqq (by kernel_rfl)
theorem c98:callB Tryz.prog 98=true :=
 eqq (by kernel_rfl)
theorem c99:callB Tryz.prog 99=true :=
 eqq (by kernel_rfl)
theorem t100:tsz Tryz.prog 100=some 1∧tby Tryz.prog 100=some 8∧tag Tryz.prog 100=some false∧tzr Tryz.prog 100=some [.nilFunc] :=
 ⟨eqq (by kernel_rfl),eqq (by kernel_rfl),eqq (by kernel_rfl),eqq (by kernel_rfl)⟩
theorem t102:tsz Tryz.prog 102=some 1∧tby Tryz.prog 102=some 8∧tag Tryz.prog 102=some false∧tzr Tryz.prog 102=some [.pointer none]∧Tryz.prog.underlying 102=some (.pointer 108) :=
 ⟨eqq (by kernel_rfl),eqq (by kernel_rfl),eqq (by kernel_rfl),eqq (by kernel_rfl),eqq (by kernel_rfl)⟩
theorem t104:tsz Tryz.prog 104=some 1∧tby Tryz.prog 104=some 0∧tag Tryz.prog 104=some false :=
 ⟨eqq (by kernel_rfl),eqq (by kernel_rfl),eqq (by kernel_rfl)⟩
theorem t106:tsz Tryz.prog 106=some 1∧tby Tryz.prog 106=some 8∧tag Tryz.prog 106=some false∧tzr Tryz.prog 106=some [.nilFunc] :=
 ⟨eqq (by kernel_rfl),eqq (by kernel_rfl),eqq (by kernel_rfl),eqq (by kernel_rfl)⟩
theorem t108:tsz Tryz.prog 108=some 2∧tby Tryz.prog 108=some 32∧tag Tryz.prog 108=some true∧tzr Tryz.prog 108=some [.slice none 0 0,.nilFunc]∧fld Tryz.prog 108 0=some (0,28)∧placeOf Tryz.prog 108 0=some (0,1)∧fld Tryz.prog 108 1=some (1,106)∧placeOf Tryz.prog 108 1=some (1,1) :=
 ⟨eqq (by kernel_rfl),eqq (by kernel_rfl),eqq (by kernel_rfl),eqq (by kernel_rfl),eqq (by kernel_rfl),eqq (by kernel_rfl),eqq (by kernel_rfl),eqq (by kernel_rfl)⟩
theorem t111:tsz Tryz.prog 111=some 1∧tby Tryz.prog 111=some 8∧tag Tryz.prog 111=some false∧tzr Tryz.prog 111=some [.nilFunc] :=
 ⟨eqq (by kernel_rfl),eqq (by kernel_rfl),eqq (by kernel_rfl),eqq (by kernel_rfl)⟩
theorem t114:tsz Tryz.prog 114=some 1∧tby Tryz.prog 114=some 8∧tag Tryz.prog 114=some false∧tzr Tryz.prog 114=some [.nilFunc] :=
 ⟨eqq (by kernel_rfl),eqq (by kernel_rfl),eqq (by kernel_rfl),eqq (by kernel_rfl)⟩
theorem t120:tsz Tryz.prog 120=some 1∧tby Tryz.prog 120=some 8∧tag Tryz.prog 120=some false∧tzr Tryz.prog 120=some [.map none]∧Tryz.prog.underlying 120=some (.map 122 50)∧mapT Tryz.prog 120=some (122,([.s,.i .i64,.s,.s,.i .i64,.i .i64,.i .i64,.i .i64,.s],true),.agg [.lit (.string ⟨#[]⟩),.lit (.int .i64 0),.lit (.string ⟨#[]⟩),.lit (.string ⟨#[]⟩),.lit (.int .i64 0),.lit (.slice none 0 0),.lit (.int .i64 0),.lit (.int .i64 0),.lit (.int .i64 0),.lit (.int .i64 0)]) :=
 ⟨eqq (by kernel_rfl),eqq (by kernel_rfl),eqq (by kernel_rfl),eqq (by kernel_rfl),eqq (by kernel_rfl),eqq (by kernel_rfl)⟩
theorem t122:tsz Tryz.prog 122=some 9∧tby Tryz.prog 122=some 104∧tag Tryz.prog 122=some true∧tzr Tryz.prog 122=some [.string ⟨#[]⟩,.int .i64 0,.string ⟨#[]⟩,.string ⟨#[]⟩,.int .i64 0,.int .i64 0,.int .i64 0,.int .i64 0,.string ⟨#[]⟩]∧fld Tryz.prog 122 0=some (0,40)∧placeOf Tryz.prog 122 0=some (0,2)∧fld Tryz.prog 122 1=some (2,9)∧placeOf Tryz.prog 122 1=some (2,1)∧fld Tryz.prog 122 2=some (3,9)∧placeOf Tryz.prog 122 2=some (3,1)∧fld Tryz.prog 122 3=some (4,3)∧placeOf Tryz.prog 122 3=some (4,1)∧fld Tryz.prog 122 4=some (5,3)∧placeOf Tryz.prog 122 4=some (5,1)∧fld Tryz.prog 122 5=some (6,3)∧placeOf Tryz.prog 122 5=some (6,1)∧fld Tryz.prog 122 6=some (7,3)∧placeOf Tryz.prog 122 6=some (7,1)∧fld Tryz.prog 122 7=some (8,9)∧placeOf Tryz.prog 122 7=some (8,1)∧eqT Tryz.prog 122=some [.s,.i .i64,.s,.s,.i .i64,.i .i64,.i .i64,.i .i64,.s] :=
 ⟨eqq (by kernel_rfl),eqq (by kernel_rfl),eqq (by kernel_rfl),eqq (by kernel_rfl),eqq (by kernel_rfl),eqq (by kernel_rfl),eqq (by kernel_rfl),eqq (by kernel_rfl),eqq (by kernel_rfl),eqq (by kernel_rfl),eqq (by kernel_rfl),eqq (by kernel_rfl),eqq (by kernel_rfl),eqq (by kernel_rfl),eqq (by kernel_rfl),eqq (by kernel_rfl),eqq (by kernel_rfl),eqq (by kernel_rfl),eqq (by kernel_rfl),eqq (by kernel_rfl),eqq (by kernel_rfl)⟩
theorem t124:tsz Tryz.prog 124=some 1∧tby Tryz.prog 124=some 0∧tag Tryz.prog 124=some false :=
 ⟨eqq (by kernel_rfl),eqq (by kernel_rfl),eqq (by kernel_rfl)⟩
theorem t128:tsz Tryz.prog 128=some 1∧tby Tryz.prog 128=some 8∧tag Tryz.prog 128=some false∧tzr Tryz.prog 128=some [.nilFunc] :=
 ⟨eqq (by kernel_rfl),eqq (by kernel_rfl),eqq (by kernel_rfl),eqq (by kernel_rfl)⟩
theorem t130:tsz Tryz.prog 130=some 1∧tby Tryz.prog 130=some 8∧tag Tryz.prog 130=some false∧tzr Tryz.prog 130=some [.map none]∧Tryz.prog.underlying 130=some (.map 133 134)∧mapT Tryz.prog 130=some (133,([.s,.s],true),.lit (.slice none 0 0)) :=
 ⟨eqq (by kernel_rfl),eqq (by kernel_rfl),eqq (by kernel_rfl),eqq (by kernel_rfl),eqq (by kernel_rfl),eqq (by kernel_rfl)⟩
theorem t131:tsz Tryz.prog 131=some 1∧tby Tryz.prog 131=some 8∧tag Tryz.prog 131=some false∧tzr Tryz.prog 131=some [.map none]∧Tryz.prog.underlying 131=some (.map 9 9)∧mapT Tryz.prog 131=some (9,([.s],false),.lit (.string ⟨#[]⟩)) :=
 ⟨eqq (by kernel_rfl),eqq (by kernel_rfl),eqq (by kernel_rfl),eqq (by kernel_rfl),eqq (by kernel_rfl),eqq (by kernel_rfl)⟩
theorem t133:tsz Tryz.prog 133=some 2∧tby Tryz.prog 133=some 32∧tag Tryz.prog 133=some true∧tzr Tryz.prog 133=some [.string ⟨#[]⟩,.string ⟨#[]⟩]∧fld Tryz.prog 133 0=some (0,9)∧placeOf Tryz.prog 133 0=some (0,1)∧fld Tryz.prog 133 1=some (1,9)∧placeOf Tryz.prog 133 1=some (1,1)∧eqT Tryz.prog 133=some [.s,.s] :=
 ⟨eqq (by kernel_rfl),eqq (by kernel_rfl),eqq (by kernel_rfl),eqq (by kernel_rfl),eqq (by kernel_rfl),eqq (by kernel_rfl),eqq (by kernel_rfl),eqq (by kernel_rfl),eqq (by kernel_rfl)⟩
theorem t134:tsz Tryz.prog 134=some 1∧tby Tryz.prog 134=some 24∧tag Tryz.prog 134=some false∧tzr Tryz.prog 134=some [.slice none 0 0]∧Tryz.prog.underlying 134=some (.slice 40) :=
 ⟨eqq (by kernel_rfl),eqq (by kernel_rfl),eqq (by kernel_rfl),eqq (by kernel_rfl),eqq (by kernel_rfl)⟩
theorem t137:tsz Tryz.prog 137=some 1∧tby Tryz.prog 137=some 8∧tag Tryz.prog 137=some false∧tzr Tryz.prog 137=some [.nilFunc] :=
 ⟨eqq (by kernel_rfl),eqq (by kernel_rfl),eqq (by kernel_rfl),eqq (by kernel_rfl)⟩
theorem t141:tsz Tryz.prog 141=some 1∧tby Tryz.prog 141=some 8∧tag Tryz.prog 141=some false∧tzr Tryz.prog 141=some [.int .u64 0]∧Tryz.prog.underlying 141=some (.int .u64) :=
 ⟨eqq (by kernel_rfl),eqq (by kernel_rfl),eqq (by kernel_rfl),eqq (by kernel_rfl),eqq (by kernel_rfl)⟩
theorem t146:tsz Tryz.prog 146=some 1∧tby Tryz.prog 146=some 8∧tag Tryz.prog 146=some false∧tzr Tryz.prog 146=some [.nilFunc] :=
 ⟨eqq (by kernel_rfl),eqq (by kernel_rfl),eqq (by kernel_rfl),eqq (by kernel_rfl)⟩
theorem t148:tsz Tryz.prog 148=some 1∧tby Tryz.prog 148=some 8∧tag Tryz.prog 148=some false∧tzr Tryz.prog 148=some [.pointer none]∧Tryz.prog.underlying 148=some (.pointer 59) :=
 ⟨eqq (by kernel_rfl),eqq (by kernel_rfl),eqq (by kernel_rfl),eqq (by kernel_rfl),eqq (by kernel_rfl)⟩
theorem t152:tsz Tryz.prog 152=some 1∧tby Tryz.prog 152=some 0∧tag Tryz.prog 152=some false :=
 ⟨eqq (by kernel_rfl),eqq (by kernel_rfl),eqq (by kernel_rfl)⟩
theorem t156:tsz Tryz.prog 156=some 4∧tby Tryz.prog 156=some 64∧tag Tryz.prog 156=some true∧tzr Tryz.prog 156=some [.string ⟨#[]⟩,.int .i64 0,.slice none 0 0,.string ⟨#[]⟩]∧fld Tryz.prog 156 0=some (0,9)∧placeOf Tryz.prog 156 0=some (0,1)∧fld Tryz.prog 156 1=some (1,83)∧placeOf Tryz.prog 156 1=some (1,3) :=
 ⟨eqq (by kernel_rfl),eqq (by kernel_rfl),eqq (by kernel_rfl),eqq (by kernel_rfl),eqq (by kernel_rfl),eqq (by kernel_rfl),eqq (by kernel_rfl),eqq (by kernel_rfl)⟩
theorem t159:tsz Tryz.prog 159=some 1∧tby Tryz.prog 159=some 24∧tag Tryz.prog 159=some false∧tzr Tryz.prog 159=some [.slice none 0 0]∧Tryz.prog.underlying 159=some (.slice 5) :=
 ⟨eqq (by kernel_rfl),eqq (by kernel_rfl),eqq (by kernel_rfl),eqq (by kernel_rfl),eqq (by kernel_rfl)⟩
theorem t160:tsz Tryz.prog 160=some 1∧tby Tryz.prog 160=some 24∧tag Tryz.prog 160=some false∧tzr Tryz.prog 160=some [.slice none 0 0]∧Tryz.prog.underlying 160=some (.slice 3) :=
 ⟨eqq (by kernel_rfl),eqq (by kernel_rfl),eqq (by kernel_rfl),eqq (by kernel_rfl),eqq (by kernel_rfl)⟩
theorem t164:tsz Tryz.prog 164=some 1∧tby Tryz.prog 164=some 8∧tag Tryz.prog 164=some false∧tzr Tryz.prog 164=some [.nilFunc] :=
 ⟨eqq (by kernel_rfl),eqq (by kernel_rfl),eqq (by kernel_rfl),eqq (by kernel_rfl)⟩
theorem t175:tsz Tryz.prog 175=some 1∧tby Tryz.prog 175=some 8∧tag Tryz.prog 175=some false∧tzr Tryz.prog 175=some [.int .u64 0]∧Tryz.prog.underlying 175=some (.int .u64) :=
 ⟨eqq (by kernel_rfl),eqq (by kernel_rfl),eqq (by kernel_rfl),eqq (by kernel_rfl),eqq (by kernel_rfl)⟩
theorem t215:tsz Tryz.prog 215=some 1∧tby Tryz.prog 215=some 0∧tag Tryz.prog 215=some false :=
 ⟨eqq (by kernel_rfl),eqq (by kernel_rfl),eqq (by kernel_rfl)⟩
theorem t218:tsz Tryz.prog 218=some 1∧tby Tryz.prog 218=some 24∧tag Tryz.prog 218=some false∧tzr Tryz.prog 218=some [.slice none 0 0]∧Tryz.prog.underlying 218=some (.slice 160) :=
 ⟨eqq (by kernel_rfl),eqq (by kernel_rfl),eqq (by kernel_rfl),eqq (by kernel_rfl),eqq (by kernel_rfl)⟩
theorem t219:tsz Tryz.prog 219=some 1∧tby Tryz.prog 219=some 0∧tag Tryz.prog 219=some false :=
 ⟨eqq (by kernel_rfl),eqq (by kernel_rfl),eqq (by kernel_rfl)⟩
theorem t22:tsz Tryz.prog 22=some 1∧tby Tryz.prog 22=some 24∧tag Tryz.prog 22=some false∧tzr Tryz.prog 22=some [.slice none 0 0]∧Tryz.prog.underlying 22=some (.slice 96) :=
 ⟨eqq (by kernel_rfl),eqq (by kernel_rfl),ag22,eqq (by kernel_rfl),un22⟩
theorem t231:tsz Tryz.prog 231=some 2∧tby Tryz.prog 231=some 24∧tag Tryz.prog 231=some true∧tzr Tryz.prog 231=some [.string ⟨#[]⟩,.int .i64 0]∧fld Tryz.prog 231 0=some (0,9)∧placeOf Tryz.prog 231 0=some (0,1)∧fld Tryz.prog 231 1=some (1,3)∧placeOf Tryz.prog 231 1=some (1,1)∧eqT Tryz.prog 231=some [.s,.i .i64] :=
 ⟨eqq (by kernel_rfl),eqq (by kernel_rfl),eqq (by kernel_rfl),eqq (by kernel_rfl),eqq (by kernel_rfl),eqq (by kernel_rfl),eqq (by kernel_rfl),eqq (by kernel_rfl),eqq (by kernel_rfl)⟩
theorem t235:tsz Tryz.prog 235=some 9∧tby Tryz.prog 235=some 176∧tag Tryz.prog 235=some true∧tzr Tryz.prog 235=some [.slice none 0 0,.slice none 0 0,.slice none 0 0,.slice none 0 0,.string ⟨#[]⟩,.string ⟨#[]⟩,.string ⟨#[]⟩,.slice none 0 0,.int .i64 0]∧fld Tryz.prog 235 0=some (0,63)∧placeOf Tryz.prog 235 0=some (0,4)∧fld Tryz.prog 235 1=some (4,9)∧placeOf Tryz.prog 235 1=some (4,1)∧fld Tryz.prog 235 2=some (5,80)∧placeOf Tryz.prog 235 2=some (5,4) :=
 ⟨eqq (by kernel_rfl),eqq (by kernel_rfl),eqq (by kernel_rfl),eqq (by kernel_rfl),eqq (by kernel_rfl),eqq (by kernel_rfl),eqq (by kernel_rfl),eqq (by kernel_rfl),eqq (by kernel_rfl),eqq (by kernel_rfl)⟩
theorem t24:tsz Tryz.prog 24=some 2∧tby Tryz.prog 24=some 16∧tag Tryz.prog 24=some true∧tzr Tryz.prog 24=some [.int .i64 0,.int .i64 0]∧fld Tryz.prog 24 0=some (0,3)∧placeOf Tryz.prog 24 0=some (0,1)∧fld Tryz.prog 24 1=some (1,3)∧placeOf Tryz.prog 24 1=some (1,1)∧eqT Tryz.prog 24=some [.i .i64,.i .i64] :=
 ⟨eqq (by kernel_rfl),eqq (by kernel_rfl),ag24,eqq (by kernel_rfl),eqq (by kernel_rfl),eqq (by kernel_rfl),eqq (by kernel_rfl),eqq (by kernel_rfl),eqq (by kernel_rfl)⟩
theorem t243:tsz Tryz.prog 243=some 1∧tby Tryz.prog 243=some 0∧tag Tryz.prog 243=some false :=
 ⟨eqq (by kernel_rfl),eqq (by kernel_rfl),eqq (by kernel_rfl)⟩
theorem t245:tsz Tryz.prog 245=some 1∧tby Tryz.prog 245=some 24∧tag Tryz.prog 245=some false∧tzr Tryz.prog 245=some [.slice none 0 0]∧Tryz.prog.underlying 245=some (.slice 83) :=
 ⟨eqq (by kernel_rfl),eqq (by kernel_rfl),eqq (by kernel_rfl),eqq (by kernel_rfl),eqq (by kernel_rfl)⟩
theorem t248:tsz Tryz.prog 248=some 1∧tby Tryz.prog 248=some 0∧tag Tryz.prog 248=some false :=
 ⟨eqq (by kernel_rfl),eqq (by kernel_rfl),eqq (by kernel_rfl)⟩
theorem t250:tsz Tryz.prog 250=some 1∧tby Tryz.prog 250=some 0∧tag Tryz.prog 250=some false :=
 ⟨eqq (by kernel_rfl),eqq (by kernel_rfl),eqq (by kernel_rfl)⟩
theorem t26:tsz Tryz.prog 26=some 1∧tby Tryz.prog 26=some 8∧tag Tryz.prog 26=some false∧tzr Tryz.prog 26=some [.int .i64 0]∧Tryz.prog.underlying 26=some (.int .i64) :=
 ⟨eqq (by kernel_rfl),eqq (by kernel_rfl),eqq (by kernel_rfl),eqq (by kernel_rfl),eqq (by kernel_rfl)⟩
theorem t261:tsz Tryz.prog 261=some 1∧tby Tryz.prog 261=some 0∧tag Tryz.prog 261=some false :=
 ⟨eqq (by kernel_rfl),eqq (by kernel_rfl),eqq (by kernel_rfl)⟩
theorem t268:tsz Tryz.prog 268=some 2∧tby Tryz.prog 268=some 16∧tag Tryz.prog 268=some true∧tzr Tryz.prog 268=some [.int .i64 0,.int .u64 0]∧fld Tryz.prog 268 0=some (0,3)∧placeOf Tryz.prog 268 0=some (0,1)∧fld Tryz.prog 268 1=some (1,175)∧placeOf Tryz.prog 268 1=some (1,1)∧eqT Tryz.prog 268=some [.i .i64,.i .u64] :=
 ⟨eqq (by kernel_rfl),eqq (by kernel_rfl),eqq (by kernel_rfl),eqq (by kernel_rfl),eqq (by kernel_rfl),eqq (by kernel_rfl),eqq (by kernel_rfl),eqq (by kernel_rfl),eqq (by kernel_rfl)⟩
theorem t28:tsz Tryz.prog 28=some 1∧tby Tryz.prog 28=some 24∧tag Tryz.prog 28=some false∧tzr Tryz.prog 28=some [.slice none 0 0]∧Tryz.prog.underlying 28=some (.slice 59) :=
 ⟨eqq (by kernel_rfl),eqq (by kernel_rfl),eqq (by kernel_rfl),eqq (by kernel_rfl),eqq (by kernel_rfl)⟩
theorem t3:tsz Tryz.prog 3=some 1∧tby Tryz.prog 3=some 8∧tag Tryz.prog 3=some false∧tzr Tryz.prog 3=some [.int .i64 0]∧Tryz.prog.underlying 3=some (.int .i64) :=
 ⟨eqq (by kernel_rfl),eqq (by kernel_rfl),ag3,eqq (by kernel_rfl),un3⟩
theorem t30:tsz Tryz.prog 30=some 2∧tby Tryz.prog 30=some 32∧tag Tryz.prog 30=some true∧tzr Tryz.prog 30=some [.int .i64 0,.slice none 0 0]∧fld Tryz.prog 30 0=some (0,3)∧placeOf Tryz.prog 30 0=some (0,1)∧fld Tryz.prog 30 1=some (1,28)∧placeOf Tryz.prog 30 1=some (1,1) :=
 ⟨eqq (by kernel_rfl),eqq (by kernel_rfl),eqq (by kernel_rfl),eqq (by kernel_rfl),eqq (by kernel_rfl),eqq (by kernel_rfl),eqq (by kernel_rfl),eqq (by kernel_rfl)⟩
theorem t31:tsz Tryz.prog 31=some 1∧tby Tryz.prog 31=some 0∧tag Tryz.prog 31=some false :=
 ⟨eqq (by kernel_rfl),eqq (by kernel_rfl),eqq (by kernel_rfl)⟩
theorem t34:tsz Tryz.prog 34=some 1∧tby Tryz.prog 34=some 24∧tag Tryz.prog 34=some false∧tzr Tryz.prog 34=some [.slice none 0 0]∧Tryz.prog.underlying 34=some (.slice 43) :=
 ⟨eqq (by kernel_rfl),eqq (by kernel_rfl),eqq (by kernel_rfl),eqq (by kernel_rfl),eqq (by kernel_rfl)⟩
theorem t36:tsz Tryz.prog 36=some 1∧tby Tryz.prog 36=some 24∧tag Tryz.prog 36=some false∧tzr Tryz.prog 36=some [.slice none 0 0]∧Tryz.prog.underlying 36=some (.slice 9) :=
 ⟨eqq (by kernel_rfl),eqq (by kernel_rfl),eqq (by kernel_rfl),eqq (by kernel_rfl),eqq (by kernel_rfl)⟩
theorem t37:tsz Tryz.prog 37=some 1∧tby Tryz.prog 37=some 0∧tag Tryz.prog 37=some false :=
 ⟨eqq (by kernel_rfl),eqq (by kernel_rfl),eqq (by kernel_rfl)⟩
theorem t4:tsz Tryz.prog 4=some 1∧tby Tryz.prog 4=some 1∧tag Tryz.prog 4=some false∧tzr Tryz.prog 4=some [.bool false]∧Tryz.prog.underlying 4=some .bool :=
 ⟨eqq (by kernel_rfl),eqq (by kernel_rfl),eqq (by kernel_rfl),eqq (by kernel_rfl),un4⟩
theorem t40:tsz Tryz.prog 40=some 2∧tby Tryz.prog 40=some 24∧tag Tryz.prog 40=some true∧tzr Tryz.prog 40=some [.string ⟨#[]⟩,.int .i64 0]∧fld Tryz.prog 40 0=some (0,9)∧placeOf Tryz.prog 40 0=some (0,1)∧fld Tryz.prog 40 1=some (1,3)∧placeOf Tryz.prog 40 1=some (1,1)∧eqT Tryz.prog 40=some [.s,.i .i64] :=
 ⟨eqq (by kernel_rfl),eqq (by kernel_rfl),eqq (by kernel_rfl),eqq (by kernel_rfl),eqq (by kernel_rfl),eqq (by kernel_rfl),eqq (by kernel_rfl),eqq (by kernel_rfl),eqq (by kernel_rfl)⟩
theorem t41:tsz Tryz.prog 41=some 1∧tby Tryz.prog 41=some 24∧tag Tryz.prog 41=some false∧tzr Tryz.prog 41=some [.slice none 0 0]∧Tryz.prog.underlying 41=some (.slice 85) :=
 ⟨eqq (by kernel_rfl),eqq (by kernel_rfl),eqq (by kernel_rfl),eqq (by kernel_rfl),un41⟩
theorem t43:tsz Tryz.prog 43=some 8∧tby Tryz.prog 43=some 104∧tag Tryz.prog 43=some true∧tzr Tryz.prog 43=some [.string ⟨#[]⟩,.int .i64 0,.string ⟨#[]⟩,.string ⟨#[]⟩,.int .i64 0,.slice none 0 0,.int .i64 0,.int .i64 0]∧fld Tryz.prog 43 0=some (0,40)∧placeOf Tryz.prog 43 0=some (0,2)∧fld Tryz.prog 43 1=some (2,9)∧placeOf Tryz.prog 43 1=some (2,1)∧fld Tryz.prog 43 2=some (3,9)∧placeOf Tryz.prog 43 2=some (3,1)∧fld Tryz.prog 43 3=some (4,3)∧placeOf Tryz.prog 43 3=some (4,1)∧fld Tryz.prog 43 4=some (5,41)∧placeOf Tryz.prog 43 4=some (5,1)∧fld Tryz.prog 43 5=some (6,3)∧placeOf Tryz.prog 43 5=some (6,1)∧fld Tryz.prog 43 6=some (7,3)∧placeOf Tryz.prog 43 6=some (7,1) :=
 ⟨eqq (by kernel_rfl),eqq (by kernel_rfl),eqq (by kernel_rfl),eqq (by kernel_rfl),eqq (by kernel_rfl),eqq (by kernel_rfl),eqq (by kernel_rfl),eqq (by kernel_rfl),eqq (by kernel_rfl),eqq (by kernel_rfl),eqq (by kernel_rfl),eqq (by kernel_rfl),eqq (by kernel_rfl),eqq (by kernel_rfl),eqq (by kernel_rfl),eqq (by kernel_rfl),eqq (by kernel_rfl),eqq (by kernel_rfl)⟩
theorem t44:tsz Tryz.prog 44=some 1∧tby Tryz.prog 44=some 0∧tag Tryz.prog 44=some false :=
 ⟨eqq (by kernel_rfl),eqq (by kernel_rfl),eqq (by kernel_rfl)⟩
theorem t5:tsz Tryz.prog 5=some 1∧tby Tryz.prog 5=some 1∧tag Tryz.prog 5=some false∧tzr Tryz.prog 5=some [.int .u8 0]∧Tryz.prog.underlying 5=some (.int .u8) :=
 ⟨eqq (by kernel_rfl),eqq (by kernel_rfl),eqq (by kernel_rfl),eqq (by kernel_rfl),eqq (by kernel_rfl)⟩
theorem t50:tsz Tryz.prog 50=some 10∧tby Tryz.prog 50=some 120∧tag Tryz.prog 50=some true∧tzr Tryz.prog 50=some [.string ⟨#[]⟩,.int .i64 0,.string ⟨#[]⟩,.string ⟨#[]⟩,.int .i64 0,.slice none 0 0,.int .i64 0,.int .i64 0,.int .i64 0,.int .i64 0]∧fld Tryz.prog 50 0=some (0,43)∧placeOf Tryz.prog 50 0=some (0,8)∧fld Tryz.prog 50 1=some (8,3)∧placeOf Tryz.prog 50 1=some (8,1)∧fld Tryz.prog 50 2=some (9,3)∧placeOf Tryz.prog 50 2=some (9,1) :=
 ⟨eqq (by kernel_rfl),eqq (by kernel_rfl),eqq (by kernel_rfl),eqq (by kernel_rfl),eqq (by kernel_rfl),eqq (by kernel_rfl),eqq (by kernel_rfl),eqq (by kernel_rfl),eqq (by kernel_rfl),eqq (by kernel_rfl)⟩
theorem t51:tsz Tryz.prog 51=some 1∧tby Tryz.prog 51=some 24∧tag Tryz.prog 51=some false∧tzr Tryz.prog 51=some [.slice none 0 0]∧Tryz.prog.underlying 51=some (.slice 50) :=
 ⟨eqq (by kernel_rfl),eqq (by kernel_rfl),eqq (by kernel_rfl),eqq (by kernel_rfl),eqq (by kernel_rfl)⟩
theorem t52:tsz Tryz.prog 52=some 1∧tby Tryz.prog 52=some 0∧tag Tryz.prog 52=some false :=
 ⟨eqq (by kernel_rfl),eqq (by kernel_rfl),eqq (by kernel_rfl)⟩
theorem t59:tsz Tryz.prog 59=some 2∧tby Tryz.prog 59=some 40∧tag Tryz.prog 59=some true∧tzr Tryz.prog 59=some [.string ⟨#[]⟩,.slice none 0 0]∧fld Tryz.prog 59 0=some (0,9)∧placeOf Tryz.prog 59 0=some (0,1)∧fld Tryz.prog 59 1=some (1,51)∧placeOf Tryz.prog 59 1=some (1,1) :=
 ⟨eqq (by kernel_rfl),eqq (by kernel_rfl),eqq (by kernel_rfl),eqq (by kernel_rfl),eqq (by kernel_rfl),eqq (by kernel_rfl),eqq (by kernel_rfl),eqq (by kernel_rfl)⟩
theorem t60:tsz Tryz.prog 60=some 1∧tby Tryz.prog 60=some 24∧tag Tryz.prog 60=some false∧tzr Tryz.prog 60=some [.slice none 0 0]∧Tryz.prog.underlying 60=some (.slice 80) :=
 ⟨eqq (by kernel_rfl),eqq (by kernel_rfl),eqq (by kernel_rfl),eqq (by kernel_rfl),eqq (by kernel_rfl)⟩
theorem t61:tsz Tryz.prog 61=some 1∧tby Tryz.prog 61=some 24∧tag Tryz.prog 61=some false∧tzr Tryz.prog 61=some [.slice none 0 0]∧Tryz.prog.underlying 61=some (.slice 92) :=
 ⟨eqq (by kernel_rfl),eqq (by kernel_rfl),eqq (by kernel_rfl),eqq (by kernel_rfl),eqq (by kernel_rfl)⟩
theorem t63:tsz Tryz.prog 63=some 4∧tby Tryz.prog 63=some 96∧tag Tryz.prog 63=some true∧tzr Tryz.prog 63=some [.slice none 0 0,.slice none 0 0,.slice none 0 0,.slice none 0 0]∧fld Tryz.prog 63 0=some (0,60)∧placeOf Tryz.prog 63 0=some (0,1)∧fld Tryz.prog 63 1=some (1,61)∧placeOf Tryz.prog 63 1=some (1,1)∧fld Tryz.prog 63 2=some (2,61)∧placeOf Tryz.prog 63 2=some (2,1)∧fld Tryz.prog 63 3=some (3,61)∧placeOf Tryz.prog 63 3=some (3,1) :=
 ⟨eqq (by kernel_rfl),eqq (by kernel_rfl),eqq (by kernel_rfl),eqq (by kernel_rfl),eqq (by kernel_rfl),eqq (by kernel_rfl),eqq (by kernel_rfl),eqq (by kernel_rfl),eqq (by kernel_rfl),eqq (by kernel_rfl),eqq (by kernel_rfl),eqq (by kernel_rfl)⟩
theorem t64:tsz Tryz.prog 64=some 1∧tby Tryz.prog 64=some 0∧tag Tryz.prog 64=some false :=
 ⟨eqq (by kernel_rfl),eqq (by kernel_rfl),eqq (by kernel_rfl)⟩
theorem t69:tsz Tryz.prog 69=some 1∧tby Tryz.prog 69=some 8∧tag Tryz.prog 69=some false∧tzr Tryz.prog 69=some [.nilFunc] :=
 ⟨eqq (by kernel_rfl),eqq (by kernel_rfl),eqq (by kernel_rfl),eqq (by kernel_rfl)⟩
theorem t70:tsz Tryz.prog 70=some 1∧tby Tryz.prog 70=some 8∧tag Tryz.prog 70=some false∧tzr Tryz.prog 70=some [.map none]∧Tryz.prog.underlying 70=some (.map 40 4)∧mapT Tryz.prog 70=some (40,([.s,.i .i64],true),.lit (.bool false)) :=
 ⟨eqq (by kernel_rfl),eqq (by kernel_rfl),eqq (by kernel_rfl),eqq (by kernel_rfl),eqq (by kernel_rfl),eqq (by kernel_rfl)⟩
theorem t72:tsz Tryz.prog 72=some 1∧tby Tryz.prog 72=some 8∧tag Tryz.prog 72=some false∧tzr Tryz.prog 72=some [.map none]∧Tryz.prog.underlying 72=some (.map 40 98)∧mapT Tryz.prog 72=some (40,([.s,.i .i64],true),.agg [.lit (.bool false),.lit (.int .i64 0),.lit (.int .i64 0),.lit (.int .i64 0),.lit (.string ⟨#[]⟩),.lit (.int .i64 0),.lit (.int .i64 0),.lit (.int .i64 0),.lit (.string ⟨#[]⟩),.lit (.string ⟨#[]⟩),.lit (.int .i64 0),.lit (.slice none 0 0),.lit (.int .i64 0),.lit (.string ⟨#[]⟩),.lit (.string ⟨#[]⟩),.lit (.string ⟨#[]⟩),.lit (.int .i64 0),.lit (.int .i64 0),.lit (.string ⟨#[]⟩),.lit (.string ⟨#[]⟩),.lit (.slice none 0 0),.lit (.int .i64 0),.lit (.string ⟨#[]⟩),.lit (.string ⟨#[]⟩),.lit (.int .i64 0),.lit (.slice none 0 0),.lit (.string ⟨#[]⟩),.lit (.int .i64 0),.lit (.string ⟨#[]⟩),.lit (.string ⟨#[]⟩),.lit (.string ⟨#[]⟩),.lit (.int .i64 0),.lit (.int .i64 0),.lit (.string ⟨#[]⟩),.lit (.slice none 0 0),.lit (.int .i64 0),.lit (.int .i64 0),.lit (.int .i64 0),.lit (.slice none 0 0),.lit (.int .i64 0),.lit (.string ⟨#[]⟩)]) :=
 ⟨eqq (by kernel_rfl),eqq (by kernel_rfl),eqq (by kernel_rfl),eqq (by kernel_rfl),eqq (by kernel_rfl),eqq (by kernel_rfl)⟩
theorem t75:tsz Tryz.prog 75=some 8∧tby Tryz.prog 75=some 104∧tag Tryz.prog 75=some true∧tzr Tryz.prog 75=some [.string ⟨#[]⟩,.int .i64 0,.int .i64 0,.int .i64 0,.string ⟨#[]⟩,.string ⟨#[]⟩,.int .i64 0,.slice none 0 0]∧fld Tryz.prog 75 0=some (0,40)∧placeOf Tryz.prog 75 0=some (0,2)∧fld Tryz.prog 75 1=some (2,3)∧placeOf Tryz.prog 75 1=some (2,1)∧fld Tryz.prog 75 2=some (3,3)∧placeOf Tryz.prog 75 2=some (3,1)∧fld Tryz.prog 75 3=some (4,9)∧placeOf Tryz.prog 75 3=some (4,1)∧fld Tryz.prog 75 4=some (5,9)∧placeOf Tryz.prog 75 4=some (5,1)∧fld Tryz.prog 75 5=some (6,3)∧placeOf Tryz.prog 75 5=some (6,1)∧fld Tryz.prog 75 6=some (7,41)∧placeOf Tryz.prog 75 6=some (7,1) :=
 ⟨eqq (by kernel_rfl),eqq (by kernel_rfl),eqq (by kernel_rfl),eqq (by kernel_rfl),eqq (by kernel_rfl),eqq (by kernel_rfl),eqq (by kernel_rfl),eqq (by kernel_rfl),eqq (by kernel_rfl),eqq (by kernel_rfl),eqq (by kernel_rfl),eqq (by kernel_rfl),eqq (by kernel_rfl),eqq (by kernel_rfl),eqq (by kernel_rfl),eqq (by kernel_rfl),eqq (by kernel_rfl),eqq (by kernel_rfl)⟩
theorem t77:tsz Tryz.prog 77=some 5∧tby Tryz.prog 77=some 64∧tag Tryz.prog 77=some true∧tzr Tryz.prog 77=some [.int .i64 0,.string ⟨#[]⟩,.string ⟨#[]⟩,.string ⟨#[]⟩,.int .i64 0]∧fld Tryz.prog 77 0=some (0,3)∧placeOf Tryz.prog 77 0=some (0,1)∧fld Tryz.prog 77 1=some (1,9)∧placeOf Tryz.prog 77 1=some (1,1)∧fld Tryz.prog 77 2=some (2,9)∧placeOf Tryz.prog 77 2=some (2,1)∧fld Tryz.prog 77 3=some (3,40)∧placeOf Tryz.prog 77 3=some (3,2)∧eqT Tryz.prog 77=some [.i .i64,.s,.s,.s,.i .i64] :=
 ⟨eqq (by kernel_rfl),eqq (by kernel_rfl),eqq (by kernel_rfl),eqq (by kernel_rfl),eqq (by kernel_rfl),eqq (by kernel_rfl),eqq (by kernel_rfl),eqq (by kernel_rfl),eqq (by kernel_rfl),eqq (by kernel_rfl),eqq (by kernel_rfl),eqq (by kernel_rfl),eqq (by kernel_rfl)⟩
theorem t78:tsz Tryz.prog 78=some 1∧tby Tryz.prog 78=some 24∧tag Tryz.prog 78=some false∧tzr Tryz.prog 78=some [.slice none 0 0]∧Tryz.prog.underlying 78=some (.slice 156) :=
 ⟨eqq (by kernel_rfl),eqq (by kernel_rfl),eqq (by kernel_rfl),eqq (by kernel_rfl),un78⟩
theorem t80:tsz Tryz.prog 80=some 4∧tby Tryz.prog 80=some 64∧tag Tryz.prog 80=some true∧tzr Tryz.prog 80=some [.string ⟨#[]⟩,.string ⟨#[]⟩,.slice none 0 0,.int .i64 0]∧fld Tryz.prog 80 0=some (0,9)∧placeOf Tryz.prog 80 0=some (0,1)∧fld Tryz.prog 80 1=some (1,9)∧placeOf Tryz.prog 80 1=some (1,1)∧fld Tryz.prog 80 2=some (2,78)∧placeOf Tryz.prog 80 2=some (2,1)∧fld Tryz.prog 80 3=some (3,3)∧placeOf Tryz.prog 80 3=some (3,1) :=
 ⟨eqq (by kernel_rfl),eqq (by kernel_rfl),eqq (by kernel_rfl),eqq (by kernel_rfl),eqq (by kernel_rfl),eqq (by kernel_rfl),eqq (by kernel_rfl),eqq (by kernel_rfl),eqq (by kernel_rfl),eqq (by kernel_rfl),eqq (by kernel_rfl),eqq (by kernel_rfl)⟩
theorem t81:tsz Tryz.prog 81=some 1∧tby Tryz.prog 81=some 24∧tag Tryz.prog 81=some false∧tzr Tryz.prog 81=some [.slice none 0 0]∧Tryz.prog.underlying 81=some (.slice 231) :=
 ⟨eqq (by kernel_rfl),eqq (by kernel_rfl),eqq (by kernel_rfl),eqq (by kernel_rfl),un81⟩
theorem t83:tsz Tryz.prog 83=some 3∧tby Tryz.prog 83=some 48∧tag Tryz.prog 83=some true∧tzr Tryz.prog 83=some [.int .i64 0,.slice none 0 0,.string ⟨#[]⟩]∧fld Tryz.prog 83 0=some (0,3)∧placeOf Tryz.prog 83 0=some (0,1)∧fld Tryz.prog 83 1=some (1,81)∧placeOf Tryz.prog 83 1=some (1,1)∧fld Tryz.prog 83 2=some (2,9)∧placeOf Tryz.prog 83 2=some (2,1) :=
 ⟨eqq (by kernel_rfl),eqq (by kernel_rfl),eqq (by kernel_rfl),eqq (by kernel_rfl),eqq (by kernel_rfl),eqq (by kernel_rfl),eqq (by kernel_rfl),eqq (by kernel_rfl),eqq (by kernel_rfl),eqq (by kernel_rfl)⟩
theorem t85:tsz Tryz.prog 85=some 3∧tby Tryz.prog 85=some 32∧tag Tryz.prog 85=some true∧tzr Tryz.prog 85=some [.int .i64 0,.int .i64 0,.string ⟨#[]⟩]∧fld Tryz.prog 85 0=some (0,3)∧placeOf Tryz.prog 85 0=some (0,1)∧fld Tryz.prog 85 1=some (1,3)∧placeOf Tryz.prog 85 1=some (1,1)∧fld Tryz.prog 85 2=some (2,9)∧placeOf Tryz.prog 85 2=some (2,1)∧eqT Tryz.prog 85=some [.i .i64,.i .i64,.s] :=
 ⟨eqq (by kernel_rfl),eqq (by kernel_rfl),eqq (by kernel_rfl),eqq (by kernel_rfl),eqq (by kernel_rfl),eqq (by kernel_rfl),eqq (by kernel_rfl),eqq (by kernel_rfl),eqq (by kernel_rfl),eqq (by kernel_rfl),eqq (by kernel_rfl)⟩
theorem t87:tsz Tryz.prog 87=some 2∧tby Tryz.prog 87=some 16∧tag Tryz.prog 87=some true∧tzr Tryz.prog 87=some [.int .i64 0,.int .i64 0]∧fld Tryz.prog 87 0=some (0,3)∧placeOf Tryz.prog 87 0=some (0,1)∧fld Tryz.prog 87 1=some (1,3)∧placeOf Tryz.prog 87 1=some (1,1)∧eqT Tryz.prog 87=some [.i .i64,.i .i64] :=
 ⟨eqq (by kernel_rfl),eqq (by kernel_rfl),eqq (by kernel_rfl),eqq (by kernel_rfl),eqq (by kernel_rfl),eqq (by kernel_rfl),eqq (by kernel_rfl),eqq (by kernel_rfl),eqq (by kernel_rfl)⟩
theorem t88:tsz Tryz.prog 88=some 1∧tby Tryz.prog 88=some 24∧tag Tryz.prog 88=some false∧tzr Tryz.prog 88=some [.slice none 0 0]∧Tryz.prog.underlying 88=some (.slice 90) :=
 ⟨eqq (by kernel_rfl),eqq (by kernel_rfl),eqq (by kernel_rfl),eqq (by kernel_rfl),un88⟩
theorem t9:tsz Tryz.prog 9=some 1∧tby Tryz.prog 9=some 16∧tag Tryz.prog 9=some false∧tzr Tryz.prog 9=some [.string ⟨#[]⟩]∧Tryz.prog.underlying 9=some .string :=
 ⟨eqq (by kernel_rfl),eqq (by kernel_rfl),ag9,eqq (by kernel_rfl),un9⟩
theorem t90:tsz Tryz.prog 90=some 12∧tby Tryz.prog 90=some 160∧tag Tryz.prog 90=some true∧tzr Tryz.prog 90=some [.int .i64 0,.string ⟨#[]⟩,.string ⟨#[]⟩,.string ⟨#[]⟩,.int .i64 0,.int .i64 0,.string ⟨#[]⟩,.slice none 0 0,.int .i64 0,.int .i64 0,.int .i64 0,.slice none 0 0]∧fld Tryz.prog 90 0=some (0,3)∧placeOf Tryz.prog 90 0=some (0,1)∧fld Tryz.prog 90 1=some (1,9)∧placeOf Tryz.prog 90 1=some (1,1)∧fld Tryz.prog 90 2=some (2,9)∧placeOf Tryz.prog 90 2=some (2,1)∧fld Tryz.prog 90 3=some (3,9)∧placeOf Tryz.prog 90 3=some (3,1)∧fld Tryz.prog 90 4=some (4,85)∧placeOf Tryz.prog 90 4=some (4,3)∧fld Tryz.prog 90 5=some (7,81)∧placeOf Tryz.prog 90 5=some (7,1)∧fld Tryz.prog 90 6=some (8,3)∧placeOf Tryz.prog 90 6=some (8,1)∧fld Tryz.prog 90 7=some (9,87)∧placeOf Tryz.prog 90 7=some (9,2)∧fld Tryz.prog 90 8=some (11,88)∧placeOf Tryz.prog 90 8=some (11,1) :=
 ⟨eqq (by kernel_rfl),eqq (by kernel_rfl),eqq (by kernel_rfl),eqq (by kernel_rfl),eqq (by kernel_rfl),eqq (by kernel_rfl),eqq (by kernel_rfl),eqq (by kernel_rfl),eqq (by kernel_rfl),eqq (by kernel_rfl),eqq (by kernel_rfl),eqq (by kernel_rfl),eqq (by kernel_rfl),eqq (by kernel_rfl),eqq (by kernel_rfl),eqq (by kernel_rfl),eqq (by kernel_rfl),eqq (by kernel_rfl),eqq (by kernel_rfl),eqq (by kernel_rfl),eqq (by kernel_rfl),eqq (by kernel_rfl)⟩
theorem t92:tsz Tryz.prog 92=some 18∧tby Tryz.prog 92=some 248∧tag Tryz.prog 92=some true∧tzr Tryz.prog 92=some [.string ⟨#[]⟩,.string ⟨#[]⟩,.int .i64 0,.slice none 0 0,.string ⟨#[]⟩,.int .i64 0,.string ⟨#[]⟩,.string ⟨#[]⟩,.string ⟨#[]⟩,.int .i64 0,.int .i64 0,.string ⟨#[]⟩,.slice none 0 0,.int .i64 0,.int .i64 0,.int .i64 0,.slice none 0 0,.int .i64 0]∧fld Tryz.prog 92 0=some (0,9)∧placeOf Tryz.prog 92 0=some (0,1)∧fld Tryz.prog 92 1=some (1,9)∧placeOf Tryz.prog 92 1=some (1,1)∧fld Tryz.prog 92 2=some (2,83)∧placeOf Tryz.prog 92 2=some (2,3)∧fld Tryz.prog 92 3=some (5,90)∧placeOf Tryz.prog 92 3=some (5,12)∧fld Tryz.prog 92 4=some (17,3)∧placeOf Tryz.prog 92 4=some (17,1) :=
 ⟨eqq (by kernel_rfl),eqq (by kernel_rfl),eqq (by kernel_rfl),eqq (by kernel_rfl),eqq (by kernel_rfl),eqq (by kernel_rfl),eqq (by kernel_rfl),eqq (by kernel_rfl),eqq (by kernel_rfl),eqq (by kernel_rfl),eqq (by kernel_rfl),eqq (by kernel_rfl),eqq (by kernel_rfl),eqq (by kernel_rfl)⟩
theorem t94:tsz Tryz.prog 94=some 24∧tby Tryz.prog 94=some 336∧tag Tryz.prog 94=some true∧tzr Tryz.prog 94=some [.int .i64 0,.string ⟨#[]⟩,.string ⟨#[]⟩,.slice none 0 0,.int .i64 0,.string ⟨#[]⟩,.string ⟨#[]⟩,.int .i64 0,.slice none 0 0,.string ⟨#[]⟩,.int .i64 0,.string ⟨#[]⟩,.string ⟨#[]⟩,.string ⟨#[]⟩,.int .i64 0,.int .i64 0,.string ⟨#[]⟩,.slice none 0 0,.int .i64 0,.int .i64 0,.int .i64 0,.slice none 0 0,.int .i64 0,.string ⟨#[]⟩]∧fld Tryz.prog 94 0=some (0,3)∧placeOf Tryz.prog 94 0=some (0,1)∧fld Tryz.prog 94 1=some (1,80)∧placeOf Tryz.prog 94 1=some (1,4)∧fld Tryz.prog 94 2=some (5,92)∧placeOf Tryz.prog 94 2=some (5,18)∧fld Tryz.prog 94 3=some (23,9)∧placeOf Tryz.prog 94 3=some (23,1) :=
 ⟨eqq (by kernel_rfl),eqq (by kernel_rfl),eqq (by kernel_rfl),eqq (by kernel_rfl),eqq (by kernel_rfl),eqq (by kernel_rfl),eqq (by kernel_rfl),eqq (by kernel_rfl),eqq (by kernel_rfl),eqq (by kernel_rfl),eqq (by kernel_rfl),eqq (by kernel_rfl)⟩
theorem t96:tsz Tryz.prog 96=some 40∧tby Tryz.prog 96=some 528∧tag Tryz.prog 96=some true∧tzr Tryz.prog 96=some [.int .i64 0,.int .i64 0,.int .i64 0,.string ⟨#[]⟩,.int .i64 0,.int .i64 0,.int .i64 0,.string ⟨#[]⟩,.string ⟨#[]⟩,.int .i64 0,.slice none 0 0,.int .i64 0,.string ⟨#[]⟩,.string ⟨#[]⟩,.string ⟨#[]⟩,.int .i64 0,.int .i64 0,.string ⟨#[]⟩,.string ⟨#[]⟩,.slice none 0 0,.int .i64 0,.string ⟨#[]⟩,.string ⟨#[]⟩,.int .i64 0,.slice none 0 0,.string ⟨#[]⟩,.int .i64 0,.string ⟨#[]⟩,.string ⟨#[]⟩,.string ⟨#[]⟩,.int .i64 0,.int .i64 0,.string ⟨#[]⟩,.slice none 0 0,.int .i64 0,.int .i64 0,.int .i64 0,.slice none 0 0,.int .i64 0,.string ⟨#[]⟩]∧fld Tryz.prog 96 0=some (0,3)∧placeOf Tryz.prog 96 0=some (0,1)∧fld Tryz.prog 96 1=some (1,3)∧placeOf Tryz.prog 96 1=some (1,1)∧fld Tryz.prog 96 2=some (2,3)∧placeOf Tryz.prog 96 2=some (2,1)∧fld Tryz.prog 96 3=some (3,75)∧placeOf Tryz.prog 96 3=some (3,8)∧fld Tryz.prog 96 4=some (11,77)∧placeOf Tryz.prog 96 4=some (11,5)∧fld Tryz.prog 96 5=some (16,94)∧placeOf Tryz.prog 96 5=some (16,24) :=
 ⟨eqq (by kernel_rfl),eqq (by kernel_rfl),eqq (by kernel_rfl),eqq (by kernel_rfl),eqq (by kernel_rfl),eqq (by kernel_rfl),eqq (by kernel_rfl),eqq (by kernel_rfl),eqq (by kernel_rfl),eqq (by kernel_rfl),eqq (by kernel_rfl),eqq (by kernel_rfl),eqq (by kernel_rfl),eqq (by kernel_rfl),eqq (by kernel_rfl),eqq (by kernel_rfl)⟩
theorem t98:tsz Tryz.prog 98=some 41∧tby Tryz.prog 98=some 536∧tag Tryz.prog 98=some true∧tzr Tryz.prog 98=some [.bool false,.int .i64 0,.int .i64 0,.int .i64 0,.string ⟨#[]⟩,.int .i64 0,.int .i64 0,.int .i64 0,.string ⟨#[]⟩,.string ⟨#[]⟩,.int .i64 0,.slice none 0 0,.int .i64 0,.string ⟨#[]⟩,.string ⟨#[]⟩,.string ⟨#[]⟩,.int .i64 0,.int .i64 0,.string ⟨#[]⟩,.string ⟨#[]⟩,.slice none 0 0,.int .i64 0,.string ⟨#[]⟩,.string ⟨#[]⟩,.int .i64 0,.slice none 0 0,.string ⟨#[]⟩,.int .i64 0,.string ⟨#[]⟩,.string ⟨#[]⟩,.string ⟨#[]⟩,.int .i64 0,.int .i64 0,.string ⟨#[]⟩,.slice none 0 0,.int .i64 0,.int .i64 0,.int .i64 0,.slice none 0 0,.int .i64 0,.string ⟨#[]⟩]∧fld Tryz.prog 98 0=some (0,4)∧placeOf Tryz.prog 98 0=some (0,1)∧fld Tryz.prog 98 1=some (1,96)∧placeOf Tryz.prog 98 1=some (1,40) :=
 ⟨eqq (by kernel_rfl),eqq (by kernel_rfl),eqq (by kernel_rfl),eqq (by kernel_rfl),eqq (by kernel_rfl),eqq (by kernel_rfl),eqq (by kernel_rfl),eqq (by kernel_rfl)⟩
end Go.Proofs.YtopfanlkbepemaaGreat.Ty
theorem Go.VL.aI {a b:Prop} (x:a) (y:b):a∧b:=⟨x,y⟩
