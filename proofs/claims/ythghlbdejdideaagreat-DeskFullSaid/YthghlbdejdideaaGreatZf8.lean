/-
  Texts of mine, put together by program (wip/slim.py), for law_deskFull: part 8.
-/
import Derived.Test.YthghlbdejdideaaGreatZf7
import Derived.Test.YthghlbdejdideaaGreatProg
noncomputable section
set_option linter.unusedVariables false
set_option linter.unusedSimpArgs false
set_option linter.defProp false
set_option maxRecDepth 100000
/- FnS0 -/
namespace Go.Ax
open Go.Proofs
def zeX:TypeId:=3
def zaj:TypeId:=5
def zeI:TypeId:=22
def zav:TypeId:=31
def zbX:TypeId:=33
def zbS:TypeId:=36
def zd4:TypeId:=44
def zej:TypeId:=49
def zfz:TypeId:=57
def zbD:TypeId:=69
def zad:TypeId:=71
def zan:TypeId:=126
def ziL:TypeId:=128
def ztJ:TypeId:=140
def zyh:TypeId:=202
def zkX:TypeId:=211
def ziN:TypeId:=213
def zwS:TypeId:=214
def zbC:TypeId:=221
def zb7:TypeId:=223
def zkY:TypeId:=225
def zag:TypeId:=229
def zfA:TypeId:=249
def zd5:TypeId:=264
def ziM:TypeId:=265
def zzR:TypeId:=268
def za2:TypeId:=305
def zl3:TypeId:=308
def zvc:TypeId:=322
def zek:TypeId:=389
def zt9:TypeId:=394
def zaw:TypeId:=398
def ze4:TypeId:=417
def zwR:TypeId:=470
def zwT:TypeId:=484
def zjL:TypeId:=506
def zzQ:TypeId:=508
def zhh:TypeId:=523
def zkL:TypeId:=524
def zkH:FuncId:=5
def zeS:FuncId:=15
def zdu:FuncId:=48
def zcA:FuncId:=49
def zbn:FuncId:=16
def zaY:FuncId:=19
def zcg:FuncId:=50
def zbV:FuncId:=51
def zax:FuncId:=85
def zaT:FuncId:=130
def za9:FuncId:=86
def zb9:FuncId:=131
def zbs:FuncId:=82
def zbM:FuncId:=128
def zb8:FuncId:=129
def zb5:FuncId:=87
def zf1:FuncId:=132
def zd7:FuncId:=200
def zeE:FuncId:=46
def zcX:FuncId:=83
def zdm:FuncId:=84
def zij:FuncId:=88
def zcB:FuncId:=89
def zfY:FuncId:=133
def ze9:FuncId:=201
def zfJ:FuncId:=278
def zaI:FuncId:=150
def zaq:FuncId:=279
def zaO:FuncId:=280
def zbT:FuncId:=281
def zcz:FuncId:=282
def zc9:FuncId:=134
def zb2:FuncId:=202
def zcf:FuncId:=68
def zdw:FuncId:=203
def zg1:FuncId:=283
def zdU:FuncId:=284
def zdG:FuncId:=318
def zdt:FuncId:=354
def zaG:FuncId:=353
def za1:FuncId:=147
def zaH:FuncId:=236
def zcQ:FuncId:=135
def zcu:FuncId:=204
def zcs:FuncId:=285
def zf4:FuncId:=335
def zeF:FuncId:=336
def zds:FuncId:=337
def zci:FuncId:=348
def zdv:FuncId:=286
def zbU:FuncId:=148
def zfZ:FuncId:=237
def zar:FuncId:=320
def zay:FuncId:=355
def zes:FuncId:=321
def zg2:FuncId:=322
def zgZ:FuncId:=357
def zfX:FuncId:=356
def zau:FuncId:=358
def zaF:FuncId:=364
def zfa:FuncId:=359
def zgY:FuncId:=323
def zbL:FuncId:=324
def zea:FuncId:=360
def zg0:FuncId:=137
def zcr:FuncId:=208
def zdz:FuncId:=136
def zfc:FuncId:=206
def zdX:FuncId:=205
def zin:FuncId:=287
def zct:FuncId:=207
def zcN:FuncId:=90
def zgX:FuncId:=138
def zeq:FuncId:=209
def zdT:FuncId:=210
def zig:FuncId:=288
def ze8:FuncId:=338
def zcb:FuncId:=139
def zeu:FuncId:=140
def zeb:FuncId:=211
def zde:FuncId:=212
def zg9:FuncId:=141
def zgJ:FuncId:=142
def zj7:FuncId:=213
def zih:FuncId:=290
def zaJ:FuncId:=289
def zev:FuncId:=143
def zhb:FuncId:=214
def zaC:FuncId:=215
def zam:FuncId:=216
def zbW:FuncId:=291
def zcd:FuncId:=224
def zbB:FuncId:=217
def zbA:FuncId:=292
def za5:FuncId:=221
def zbo:FuncId:=222
def zb6:FuncId:=293
def zcc:FuncId:=294
def zcj:FuncId:=339
def zf5:FuncId:=362
def zcT:FuncId:=295
def zcY:FuncId:=218
def zbt:FuncId:=296
def zda:FuncId:=341
def zbf:FuncId:=340
def zbu:FuncId:=363
def zdZ:FuncId:=297
def zfe:FuncId:=342
def zd3:FuncId:=299
def zbR:FuncId:=300
def zdJ:FuncId:=310
def zal:FuncId:=298
def zao:FuncId:=343
def zc2:FuncId:=219
def zcv:FuncId:=220
def zd0:FuncId:=301
def zbm:FuncId:=344
def zcC:FuncId:=223
def zfK:FuncId:=144
def zaS:FuncId:=225
def zbh:FuncId:=302
def zc8:FuncId:=91
def zgK:FuncId:=145
def zbj:FuncId:=226
def za6:FuncId:=227
def zc6:FuncId:=146
def zfI:FuncId:=228
def zii:FuncId:=303
def zfW:FuncId:=346
def ze7:FuncId:=347
def zaL:FuncId:=345
def zgW:FuncId:=305
def zep:FuncId:=304
def zer:FuncId:=306
def zff:FuncId:=229
def zha:FuncId:=307
def zfd:FuncId:=308
def zbl:FuncId:=309
def zcM:FuncId:=230
def zjT:FuncId:=311
def zc5:FuncId:=312
def zfS:FuncId:=313
def zfR:FuncId:=349
def zdW:FuncId:=231
def zg8:FuncId:=314
def zd2:FuncId:=350
def zjS:FuncId:=315
def zil:FuncId:=316
def zif:FuncId:=232
def zd1:FuncId:=234
def zjR:FuncId:=233
def zfV:FuncId:=317
def zbi:FuncId:=351
def za7:FuncId:=352
def zdV:FuncId:=235
def zaz:FuncId:=319
def zbk:FuncId:=52
def zcp:FuncId:=92
def zbd:FuncId:=149
def zce:FuncId:=151
def zet:FuncId:=238
def zaW:FuncId:=239
def zdI:FuncId:=240
def zbx:FuncId:=93
def zaV:FuncId:=152
def zcq:FuncId:=241
def zcR:FuncId:=94
def zg5:FuncId:=153
def zfU:FuncId:=242
def zbp:FuncId:=325
def zf3:FuncId:=243
def zeR:FuncId:=326
def zdr:FuncId:=154
def zdH:FuncId:=244
def zcD:FuncId:=155
def zcP:FuncId:=95
def zf0:FuncId:=156
def zdq:FuncId:=163
def zeQ:FuncId:=246
def zfT:FuncId:=327
def zfb:FuncId:=251
def zch:FuncId:=97
def zbv:FuncId:=164
def zg4:FuncId:=157
def ze6:FuncId:=245
def zdx:FuncId:=158
def zdy:FuncId:=159
def zdA:FuncId:=247
def zcS:FuncId:=329
def za0:FuncId:=328
def zbe:FuncId:=330
def zim:FuncId:=248
def zik:FuncId:=331
def zc7:FuncId:=249
def zdY:FuncId:=160
def zg6:FuncId:=161
def zg7:FuncId:=250
def zcO:FuncId:=53
def zg3:FuncId:=96
def zf2:FuncId:=162
def zba:FuncId:=54
def zaB:FuncId:=98
def zbb:FuncId:=24
def zbw:FuncId:=58
def zaM:FuncId:=101
def zaK:FuncId:=27
def zaQ:FuncId:=62
def zak:FuncId:=61
def zas:FuncId:=102
def zah:FuncId:=103
def zae:FuncId:=104
def zbF:FuncId:=105
def zaD:FuncId:=66
def zdB:FuncId:=18
def zaU:FuncId:=25
def zaN:FuncId:=59
def zco:FuncId:=17
def zaP:FuncId:=26
def zai:FuncId:=60
def zod:FuncId:=28
def zcI:FuncId:=6
def zjP:FuncId:=7
def hintRows:List (Nat × List (List Nat)):=[
 (zkH,[[],[20],[],[],[0,1,2,3,4,5,6,7,8,9,10,11,12],[],[],[15],[],[],[12],[]]),
 (zeS,[[],[6],[],[0,1,3,4,2,5,6]]),
 (zdu,[]),
 (zcA,[]),
 (zbn,[]),
 (zaY,[[],[],[],[],[0,1,2,3,4,5,6,7,8,9,10,11,12]]),
 (zcg,[]),
 (zbV,[]),
 (zax,[[]]),
 (zaT,[]),
 (za9,[[],[10],[]]),
 (zb9,[]),
 (zbs,[[],[9],[]]),
 (zbM,[[],[10],[]]),
 (zb8,[]),
 (zb5,[[0,1,2,3,4,5,6,7,8,9,10,11,12,14,15,16,13]]),
 (zf1,[]),
 (zd7,[]),
 (zeE,[[],[19],[],[0,1,2,3,4,5,6,7,8,9,10,11,12,13,14,15,16,17,18,19,20,21,22,23,24,25,26,27,28,29,30,31,32]]),
 (zcX,[]),
 (zdm,[[3],[3,11],[3],[3]]),
 (zij,[]),
 (zcB,[[],[30],[],[],[],[],[],[],[56],[],[],[],[72],[]]),
 (zfY,[[4],[0,4],[0,4],[0,1,2,3,4,5,6,7,8,9,10,11,12,13,14,16,17,15,18],[0,1,2,3,4,5,6,7,8,9,10,11,12],[]]),
 (ze9,[[0,1,2,3,4,5,6,7,8,9,10,11,12,13,14,15],[],[],[]]),
 (zfJ,[[]]),
 (zaI,[]),
 (zaq,[]),
 (zaO,[[5],[5,28],[5]]),
 (zbT,[[5],[5,8],[5]]),
 (zcz,[[],[],[],[4],[],[0,1,2,3,4,5,8,6,9,7,10,11,12,13,14,15,16],[],[],[5],[],[],[0,1,2,3,4,5,7,6,8,9,10,11,12,13,14,15],[],[],[94],[],[0,1,2,3,4,5,6,7,8,9,10,11]]),
 (zc9,[[],[39],[],[0,1,2,3,4,5,6,7,8,9,12,10,11]]),
 (zb2,[[],[16],[]]),
 (zcf,[]),
 (zdw,[[5],[5,13],[5],[5]]),
 (zg1,[[3],[3,9],[3],[3],[3,18],[3],[3]]),
 (zdU,[]),
 (zdG,[]),
 (zdt,[]),
 (zaG,[[],[8],[]]),
 (za1,[[],[0,1,2,3,4,5,6,7,8,9,10,11,12]]),
 (zaH,[[0,1,2,3,4,5,6,7,8,9,10],[0,1,2,3,4,5,6,7,8,9]]),
 (zcQ,[]),
 (zcu,[[],[9,10]]),
 (zcs,[]),
 (zf4,[]),
 (zeF,[]),
 (zds,[]),
 (zci,[]),
 (zdv,[[0,1,2,3,4,5,6,7,8,9,10,11]]),
 (zbU,[]),
 (zfZ,[[4],[4,19],[4]]),
 (zar,[]),
 (zay,[[],[8],[]]),
 (zes,[]),
 (zg2,[[],[20],[0,1,2,3,4,5,6,7,8,9,10,11,12,13,14]]),
 (zgZ,[[],[],[0,1,2,3,4,5,6,7,8,9,10,11,12,13,14,15,16,17,18,19],[],[],[0,1,2,3,4,5,6,7],[],[],[0,1,2,3,4,5,6,7],[],[0,1,2,3,4,5,6,7,8,9,10,11,12,13,14,15],[0,1,2,3,4,5,6,7,8,9,10,11]]),
 (zfX,[]),
 (zau,[]),
 (zaF,[[],[8],[]]),
 (zfa,[]),
 (zgY,[[2],[2],[2,78],[2],[0,1,2,3,5,6,7,4,8,9],[2],[2,98],[2],[0,1,2,3,5,6,4,7,8,9],[2],[2,136],[2],[0,2,3,4,5,1,6,7,8],[2],[0,1,2,4,5,6,3,7,8,9],[2],[2,33],[2],[0,1,2,4,5,6,3,7,8,9],[0,1,2,3,4,5,6,7,8]]),
 (zbL,[[0],[0,7],[0]]),
 (zea,[[0],[0,11],[0],[0],[0,40],[0]]),
 (zg0,[[],[0,1,2,3,4,5,6,7,8]]),
 (zcr,[[0,2],[0,2],[0,2]]),
 (zdz,[[0,1,2,3,4,5,6,7,8,9,10,11],[12],[12,35],[12],[]]),
 (zfc,[[5,6],[5,6,11],[5,6],[5],[6]]),
 (zdX,[]),
 (zin,[]),
 (zct,[[]]),
 (zcN,[]),
 (zgX,[[],[5],[],[6],[],[0,1,2,3,4,5,6,7,8,9,10,11],[0,1,2,3,4,5,6,7,8,9,10,11,14,15,17,18,12,16,19,13,20,21,22],[]]),
 (zeq,[[3],[3,8],[3]]),
 (zdT,[[0,1,2,3,4,5,6,7,8,9,10,11,12]]),
 (zig,[[6],[1,6],[1,6]]),
 (ze8,[[8,9],[9]]),
 (zcb,[[],[16],[]]),
 (zeu,[[0,1,2,3,4,5,6,7,8,9]]),
 (zeb,[]),
 (zde,[[6],[6,16],[6]]),
 (zg9,[]),
 (zgJ,[]),
 (zj7,[]),
 (zih,[]),
 (zaJ,[[],[8],[]]),
 (zev,[[0,1,2,3,4,5,6],[],[],[],[],[],[],[],[0,1,2,3,4,5,6,7,8,9,10,11],[],[],[],[0,1,2,3,4,5,6],[],[]]),
 (zhb,[]),
 (zaC,[]),
 (zam,[]),
 (zbW,[[6],[6,20],[6],[0,1,2,3,4,5,6,7,8,9,10,11,12,13,14,15,16,17,18,19,20,21,22,23],[]]),
 (zcd,[[0,1,2,3,4,5,6,7,8,9,10,11]]),
 (zbB,[[],[],[89],[],[0,1,2,5,3,6,4,7,8,9,10,11,12],[],[],[72],[],[0,1,2,3,4,5,6,7,8,9],[],[57],[],[0,1,2,3,4,5,6,7,8,9],[],[35],[],[0,1,2,3,4,5,6,7],[],[19],[],[0,1,2,3,4,5,6,7,8,9]]),
 (zbA,[[3],[3],[3],[],[],[],[],[0,1,2,3,4,5,6,7,8,9,10,11,12,13,14,15,16]]),
 (za5,[[]]),
 (zbo,[[7],[7,9],[7]]),
 (zb6,[[3],[3],[3]]),
 (zcc,[]),
 (zcj,[]),
 (zf5,[[0,1,2,3,4,5,6]]),
 (zcT,[[3],[3,9],[3]]),
 (zcY,[[],[71],[],[3]]),
 (zbt,[]),
 (zda,[]),
 (zbf,[]),
 (zbu,[[],[8],[]]),
 (zdZ,[[],[12],[]]),
 (zfe,[[]]),
 (zd3,[]),
 (zbR,[]),
 (zdJ,[]),
 (zal,[]),
 (zao,[[],[8],[]]),
 (zc2,[]),
 (zcv,[]),
 (zd0,[[0,1,3,4,6,7,2,5,8,9,10,11,12,13,14]]),
 (zbm,[]),
 (zcC,[[3],[3,4],[3]]),
 (zfK,[]),
 (zaS,[]),
 (zbh,[[],[8],[]]),
 (zc8,[[],[61],[],[],[],[],[0,1,2,3,4,5,6,7,8,9,10,11],[],[0,1,2,3,4,5,6,7],[0,1,2,3,4,5,6,7,8,9,10,11,12,13,14,15,16,17,18,19,20,21,23,24,22,25],[0,1,2,3,4,5,6,7,8,9,10,11,12,13],[],[],[0,1,2,3,4,5,6,7,8,9,10,11],[0,1,2,3,4,5,6,7,8]]),
 (zgK,[[6],[6,7],[6],[6]]),
 (zbj,[]),
 (za6,[[],[2,3],[],[0,1,2,3,4,5,6,7,8,9,10,11,12,13,14,15]]),
 (zc6,[[0,1,2,3,4,5,6,7,8,9,10,11],[0,1,2,3,4,5,6,8,7],[0,1,2,3,4,5,6,7,8,9,10,11,15,16,12,13,14,17,18,19],[],[0,1,2,3,4,5,6,7,8,9,10]]),
 (zfI,[[4],[4],[4],[4,27],[4],[0,1,2,4,5,3,6,7],[0,2,3,4,1,5,6]]),
 (zii,[[]]),
 (zfW,[]),
 (ze7,[]),
 (zaL,[]),
 (zgW,[[4],[3],[3],[0,1,2,3,4,5,6,7,8,9]]),
 (zep,[[0],[0,7],[0]]),
 (zer,[[3],[3],[3],[3],[3,9],[3],[3]]),
 (zff,[[]]),
 (zha,[]),
 (zfd,[]),
 (zbl,[[],[13],[],[0,1,2,3,4,5,6,7,8]]),
 (zcM,[[],[0,1,2,3,4,5,6,7,8,9,10,11,12,13],[]]),
 (zjT,[[0,1,2,3,4,5,6],[]]),
 (zc5,[]),
 (zfS,[[],[0,1,2,3,4,8,5,6,7,9,10,11]]),
 (zfR,[]),
 (zdW,[[],[0,1,2,3,4,5,6,7,8,9,10,11,12,13],[0,1,2,3,4,5,6,7,8,9,10,11,12,13,14],[0,1,2,3,4,5,6,7,8,9,10,11,12,13,14,15]]),
 (zg8,[[10,13],[10,11,12,13,23],[10,11,12,13],[10,11,12,13]]),
 (zd2,[[4,5,6],[4,5,6,25],[4,5,6],[4,5,6],[0,1,2,3,4,5,6,7,8,9,10]]),
 (zjS,[]),
 (zil,[[],[11],[]]),
 (zif,[[],[],[0,1,2,3,4,5,6,7,8,9],[9]]),
 (zd1,[[]]),
 (zjR,[[0,1,2,3,4,5,6,7]]),
 (zfV,[[],[19],[],[0,1,2,3,4,5,6,7,8,9,10,11,12],[0,1,3,4,6,7,2,5,8,9,10,11,12,13,14]]),
 (zbi,[]),
 (za7,[]),
 (zdV,[[],[0,1,2,3,4,5,6,7,8,9,10,11,12,13],[]]),
 (zaz,[[0,1,2,3,4,5,6,7]]),
 (zbk,[[],[7],[7],[7],[7],[],[7]]),
 (zcp,[[],[0,2,3,1,4,5],[0,1,2,3,4,5,6,7,8,9,10,11,12,14,16,13,15,17,18,19,20]]),
 (zbd,[[0,1,2,3,4,5,6,7,8,9,10,11,12,13]]),
 (zce,[[]]),
 (zet,[[],[27],[23],[13],[8],[8]]),
 (zaW,[]),
 (zdI,[[],[9],[]]),
 (zbx,[]),
 (zaV,[[]]),
 (zcq,[[4],[4,31],[4]]),
 (zcR,[[0,1,2,3,4,5,6,7,8,9,11,10,12,13],[12],[12,48],[12],[12],[0,1,2,3,4,5,6,7,8,9,10,11,14,15,12,13,16,17],[0,1,2,3,4,5,6]]),
 (zg5,[[0,1,2,3,4,5,6,8,7,9,10],[0,1,2,3,4,5],[]]),
 (zfU,[]),
 (zbp,[[],[8],[]]),
 (zf3,[[0,1,2,3,4,5,6],[]]),
 (zeR,[]),
 (zdr,[]),
 (zdH,[]),
 (zcD,[[],[16],[],[],[0,1,2,3,4,5,6,7,8,9,10]]),
 (zcP,[[11],[11],[0,1,2,3,4,5,6,7,8,9,10,11,12,14,15,16,13,17],[11],[0,1,2,3,4,5,6,7,8,9,10,11,12,13,14,16,17,18,15,19],[11],[0,1,2,3,4,5,6,7,8],[0,1,2,3,4,5,6,7,8,9],[11],[],[0,1,2,3,4,5,6,7,8,9,10,13,14,15,11,12,16,17],[0,1,2,3,4,5,6,7,8,9,10,11,12,13,14,15]]),
 (zf0,[]),
 (zdq,[[0,1,2,3,5,4,6,7,8,10,11,9,12]]),
 (zeQ,[[]]),
 (zfT,[]),
 (zfb,[[]]),
 (zch,[[],[88],[],[0,1,2,3,4,6,7,8,9,10,5,11,12,13],[],[41],[],[],[45],[],[0,1,2,3,4,5,6,7,8,9,11,12,13,10,14,15],[6],[6,18],[6],[6]]),
 (zbv,[]),
 (zg4,[]),
 (ze6,[]),
 (zdx,[[],[0,1,2,3,4,5,6,7,8],[0,1,2,3,4,5,6,7,8,9,10,11,12,13,14,15,16,17,18,19,20,21,22,23,24,25,26]]),
 (zdy,[[9],[0,1,2,3,4,5,6,7,8,9,10,11,12,13,14,15,16,17,18,19,20,21,22,23,24],[0,1,2,3,4,5,6,7,8,9],[0,1,2,3,4,5,6,7,8,9],[],[0,1,2,3,4,5,6,7,8,9,10]]),
 (zdA,[]),
 (zcS,[]),
 (za0,[[],[8],[]]),
 (zbe,[[0,1,2,3,4,5,6,7]]),
 (zim,[]),
 (zik,[]),
 (zc7,[]),
 (zdY,[[0,1,2,3,4,5,6,7,8,9,10,11,12,13,14,15,16,17,18],[],[0,1,2,3,4,5,6,7,8,9,10,11,12,13,14,15,16],[0,1,2,3,4,5,6,7,8,9,10]]),
 (zg6,[]),
 (zg7,[[0,1,2,3,4,5,6],[]]),
 (zcO,[[],[15],[],[0,1,2,3,4,5,6,7,8,9,10,11,13,14,15,12]]),
 (zg3,[[11],[11,71],[11],[11],[],[26],[],[],[0,1,2,3,4,5,6,7]]),
 (zf2,[]),
 (zba,[[7],[7,11],[7]]),
 (zaB,[]),
 (zbb,[]),
 (zbw,[]),
 (zaM,[]),
 (zaK,[]),
 (zaQ,[[0,1,2,3,4,6,7,5,8,9,10]]),
 (zak,[[],[139],[4]]),
 (zas,[[],[20],[17],[10],[6],[6]]),
 (zah,[]),
 (zae,[[],[5],[]]),
 (zbF,[[],[3],[]]),
 (zaD,[[7],[7,8],[7]]),
 (zdB,[]),
 (zaU,[]),
 (zaN,[]),
 (zco,[[0,1,2,3,4,5,6,7,8,9,10,11,12,13,14,15,16]]),
 (zaP,[[],[0,1,2,3,4,5,6,7,8,9,10,11,12,14,16,13,15,17,18,19,20]]),
 (zai,[[0,1,2,3,4,5,6,7,8,9,10,11,12,13]]),
 (zod,[]),
 (zcI,[[],[11],[],[],[7],[]]),
 (zjP,[[],[21],[],[],[26],[],[24,25],[14,18],[14,18,19],[14,18],[14,18],[],[15],[],[],[],[13],[],[],[10],[]])]
def hintOf:List (Nat × List (List Nat)) → FuncId → List (List Nat)
 | [],_=>[]
 | (g,h) :: l,f=>if g = f then h else hintOf l f
noncomputable def T:FuncId → Option Fn':=table Tryz.prog (hintOf hintRows)
noncomputable def irOf (f:FuncId):Fn':=(T f).getD ⟨0,[],.bad⟩
theorem sound:zpz Tryz.prog (sem T):=sem_ok _ _
end Go.Ax
/- Su3 -/
namespace Go.Ax.SU
open Go.Ax
theorem or256 (a b:Nat) (h:b < 256):a * 256 ||| b = a * 256 + b:=by
 have:=Nat.shiftLeft_add_eq_or_of_lt (i:=8) (b:=b) h a;rw [Nat.shiftLeft_eq] at this;exact this.symm
abbrev By (lo:Nat) (H:Heap) (v:V) (l:List Nat):Prop:=Lc 1 lo H v (l.map by8) l.length
theorem zxN {lo:Nat} {H:Heap} {v:V} {l:List Nat} (h:By lo H v l) {i:Int} (h0:0 ≤ i) (h1:i < l.length):∃ p,(∀ {k:IntKind},Ax.iaddr none 1 v (.int k i) = some p) ∧ LdR none H p (.int .u8 (l.getD i.toNat 0:Nat)) ∧ p.pid = v.pid:=by
 obtain ⟨p,hp,hl⟩:=h.at h0 h1;have hi:i.toNat < l.length:=by omega
 have e:((l.map by8).drop (i.toNat * 1)).take 1 = [by8 l[i.toNat]]:=by
  rw [Nat.mul_one,← List.map_drop,List.drop_eq_getElem_cons hi]; rfl
 rw [e] at hl;refine ⟨p,hp,fun f Q=>?_,hl.pid.1⟩;rw [hl.ld0 (by simp)];have hg:l.getD i.toNat 0 = l[i.toNat]:=by rw [List.getD_eq_getElem?_getD,List.getElem?_eq_getElem hi]; rfl
 rw [hg]; exact b_lift
theorem zDp {lo:Nat} {H:Heap} {v:V} {l:List Nat} (h:By lo H v l) {x y:Int} (h0:0 ≤ x) (h1:x ≤ y) (h2:y ≤ l.length) :
  ∃ v',(∀ {k k':IntKind},zbr .sl 1 v (some (.int k x)) (some (.int k' y)) none = some v') ∧ (x = 0 → ∀ {k':IntKind},zbr .sl 1 v none (some (.int k' y)) none = some v') ∧ (y = l.length → ∀ {k:IntKind},zbr .sl 1 v (some (.int k x)) none none = some v') ∧
   By lo H v' ((l.drop x.toNat).take (y.toNat - x.toNat)) ∧ v'.pid = v.pid:=by
 obtain ⟨v',a,b,c,d,e⟩:=h.slice h0 h1 h2;refine ⟨v',a,b,c,?_,e⟩;have hl:((l.drop x.toNat).take (y.toNat - x.toNat)).length = y.toNat - x.toNat:=by rw [List.length_take,List.length_drop]; omega
 have:=d;rw [Nat.mul_one,Nat.mul_one,← List.map_drop,← List.map_take] at this;unfold By;rw [hl]; exact this
theorem zE3 {l:List Nat} {i:Nat} (h:i < l.length):l.take (i + 1) = l.take i ++ [l.getD i 0]:=by
 rw [List.take_add_one,List.getElem?_eq_getElem h,List.getD_eq_getElem?_getD,List.getElem?_eq_getElem h]; rfl
theorem okb_copy {β:Type} {ty e bytes m:Nat} {H:Heap} {y:V} {q:List V} {f:V → M β} {Q:β → Heap → Prop} (hy:acells e H y = some (q,m)) (hp:∀ id,y.pid = some id → id < H.next) (hq:q.length = m * e)
  (hb:m * bytes ≤ 140737488355328) (hm:m ≤ 140737488355328)
  (k:∀ x' H',App ty e H.next H' x' q m → Grow H H' → Ok (f x') H' Q):Ok ((mappend ty e bytes (.sl H.next 0 0 (.fix 0)) y).bind f) (H.new ⟨ty,[],none⟩) Q:=by
 have ha:App ty e H.next (H.new ⟨ty,[],none⟩) (.sl H.next 0 0 (.fix 0)) [] 0:=.lit (zat _ _) (Nat.le_refl _) (by rw [zaZ]; omega);refine zyZ ha (by rw [zaZ]; omega) (by rw [zGt fun i hi=>zeo _ _ (by have:=hp i hi; omega)]; exact hy) hq (by simpa using hb) (by omega) fun x' H' h hs=>?_;refine k x' H' (by simpa using h) ⟨by have:=hs.next; rw [zaZ] at this; omega,fun i hi=>?_⟩;rw [hs.same i (by rw [zaZ]; omega) (by simp [V.pid]; omega),zeo _ _ (by omega)]
theorem App.keep {ty e lo n:Nat} {H H':Heap} {v:V} {cells:List V} (h:App ty e lo H v cells n) (k:Keep lo H H'):App ty e lo H' v cells n:=by
 cases h with
 | opn h ho=>exact .opn (h.to fun i hi=>k.same i (ho i hi).1 (ho i hi).2) fun i hi=>⟨(ho i hi).1,Nat.lt_of_lt_of_le (ho i hi).2 k.next⟩
 | lit h h0 h1=>exact .lit (by rw [k.same _ h0 h1,h]) h0 (Nat.lt_of_lt_of_le h1 k.next)
inductive Apf (ty e lo:Nat) (H:Heap):V → List V → Nat → Prop
 | app {v:V} {cells:List V} {n:Nat} (h:App ty e lo H v cells n):Apf ty e lo H v cells n
 | full {id n:Nat} {cells:List V} (h:H.get id = some ⟨ty,cells,none⟩) (hl:cells.length = n * e) (h0:lo ≤ id) (h1:id < H.next):Apf ty e lo H (.sl id 0 n (.fix n)) cells n
theorem Apf.lc {ty e lo n:Nat} {H:Heap} {v:V} {cells:List V} (h:Apf ty e lo H v cells n):Lc e lo H v cells n:=by
 cases h with
 | app h=>exact h.lc
 | full h hl h0 h1 =>
  refine ⟨?_,fun id hi=>by simp only [V.pid,Option.some.injEq] at hi; subst hi; exact ⟨h0,h1⟩,Nat.le_refl _⟩;simp only [rcells,h,Option.bind_some];rw [if_pos (by omega),List.drop_zero,List.take_of_length_le (by omega)]
theorem Apf.keep {ty e lo n:Nat} {H H':Heap} {v:V} {cells:List V} (h:Apf ty e lo H v cells n) (k:Keep lo H H'):Apf ty e lo H' v cells n:=by
 cases h with
 | app h=>exact .app (App.keep h k)
 | full h hl h0 h1=>exact .full (by rw [k.same _ h0 h1,h]) hl h0 (Nat.lt_of_lt_of_le h1 k.next)
structure Bel (lo:Nat) (H H':Heap):Prop where
 next:H.next ≤ H'.next
 same:∀ i,i < lo → H'.get i = H.get i
theorem Bel.refl (lo:Nat) (H:Heap):Bel lo H H:=⟨Nat.le_refl _,fun _ _=>rfl⟩
theorem Bel.trans {lo:Nat} {H H1 H2:Heap} (h:Bel lo H H1) (k:Bel lo H1 H2):Bel lo H H2:=⟨Nat.le_trans h.next k.next,fun i hi=>by rw [k.same i hi,h.same i hi]⟩
theorem Bel.low {lo lo':Nat} {H H':Heap} (h:Bel lo H H') (hl:lo' ≤ lo):Bel lo' H H':=⟨h.next,fun i hi=>h.same i (by omega)⟩
theorem _root_.Go.Ax.Grow.bel {H H':Heap} (h:Grow H H') {lo:Nat} (hl:lo ≤ H.next):Bel lo H H':=⟨h.next,fun i hi=>h.same i (by omega)⟩
theorem Bel.grow {H H':Heap} (h:Bel H.next H H'):Grow H H':=⟨h.next,fun i hi=>h.same i hi⟩
theorem _root_.Go.Ax.Grow.bel' {H0 H H':Heap} {lo:Nat} (h0:Grow H0 H) (hl:H0.next ≤ lo) (h:Bel lo H H'):Grow H0 H':=⟨Nat.le_trans h0.next h.next,fun i hi=>by rw [h.same i (by omega),h0.same i hi]⟩
theorem okb_apf {β:Type} {ty e bytes lo n m:Nat} {H:Heap} {x y:V} {cells q:List V} {f:V → M β} {Q:β → Heap → Prop} (hx:Apf ty e lo H x cells n) (hlo:lo ≤ H.next) (hy:acells e H y = some (q,m)) (hq:q.length = m * e)
  (hb:(n + m) * bytes ≤ 140737488355328) (hm:n + m ≤ 140737488355328)
  (k:∀ x' H',Apf ty e lo H' x' (cells ++ q) (n + m) → Bel lo H H' → Step H H' x.pid.toList x'.pid.toList → Ok (f x') H' Q):Ok ((mappend ty e bytes x y).bind f) H Q:=by
 cases hx with
 | app h =>
  refine zyZ h hlo hy hq hb hm fun x' H' h1 hs=>k x' H' (.app h1) ⟨hs.next,fun i hi=>hs.same i (by omega) fun e=>?_⟩ hs;have:=(h.lc.own i (by simpa [zjX] using e)).1;omega
 | full h hl h0 h1 =>
  rename_i id;have hml:n + m ≤ maxLen:=Nat.le_trans hm ztI;by_cases hz:m = 0
  ·subst hz;have hq0:q = []:=List.eq_nil_of_length_eq_zero (by omega);subst hq0;refine zbO ⟨.sl id 0 n (.fix n),H.set id (some ⟨ty,cells,none⟩),?_,k _ _ ?_ ⟨by rw [zkN]; exact Nat.le_refl _,fun i hi=>zcL _ _ (by omega)⟩ (Step.set _ (by simp [V.pid]))⟩
   ·simp only [mappend,hy,Option.bind_some,mappendq,h];rw [if_pos ⟨by omega,trivial⟩];simp only [Nat.add_zero,Nat.le_refl,if_true];rw [if_pos (by omega)];simp [splice]
   ·rw [List.append_nil];exact .full (zc1 _ _ _) hl h0 h1
  ·refine zbO ⟨.sl H.next 0 (n + m) (.opn e),H.new ⟨ty,cells ++ q,some e⟩,?_,?_⟩
   ·simp only [mappend,hy,Option.bind_some,mappendq,h];rw [if_pos ⟨by omega,trivial⟩,if_neg (by omega),if_pos ⟨hb,hml⟩,List.drop_zero,List.take_of_length_le (by omega)]
   ·refine k _ _ (.app (.opn (.inr ⟨H.next,rfl,zat _ _,by simp [hl,hq,Nat.add_mul]⟩) fun i hi=>?_)) ⟨by rw [zaZ]; omega,fun i hi=>zeo _ _ (by omega)⟩ ⟨by rw [zaZ]; omega,fun i hi _=>zeo _ _ (by omega),fun i hi=>.inr (by simp only [V.pid,Option.toList_some,List.mem_singleton] at hi; subst hi; exact ⟨Nat.le_refl _,by rw [zaZ]; omega⟩)⟩;simp only [V.pid,Option.some.injEq] at hi;subst hi;exact ⟨hlo,by rw [zaZ]; omega⟩
def bn (k n:Nat):List Nat:=(List.range k).map fun i=>n / 256 ^ (k - 1 - i) % 256
theorem zDq (k n:Nat):(bn k n).length = k:=by simp [bn]
theorem bn_get (k n i:Nat) (h:i < k):(bn k n).getD i 0 = n / 256 ^ (k - 1 - i) % 256:=by
 rw [List.getD_eq_getElem?_getD,List.getElem?_eq_getElem (by rw [zDq]; exact h)]; simp [bn]
abbrev Ab (lo:Nat) (H:Heap) (v:V) (l:List Nat):Prop:=Apf zaj 1 lo H v (l.map by8) l.length
theorem Ab.by {lo:Nat} {H:Heap} {v:V} {l:List Nat} (h:Ab lo H v l):By lo H v l:=h.lc
theorem zFA {β:Type} {lo:Nat} {H:Heap} {x y:V} {l m:List Nat} {f:V → M β} {Q:β → Heap → Prop} (hx:Ab lo H x l) (hlo:lo ≤ H.next) (hy:acells 1 H y = some (m.map by8,m.length)) (hm:l.length + m.length ≤ 1099511627776)
  (k:∀ x' H',Ab lo H' x' (l ++ m) → Bel lo H H' → Step H H' x.pid.toList x'.pid.toList → Ok (f x') H' Q):Ok ((mappend zaj 1 1 x y).bind f) H Q:=by
 refine okb_apf hx hlo hy (by simp) (by omega) (by omega) fun x' H' h1 h2=>k x' H' ?_ h2;show Apf zaj 1 lo H' x' ((l ++ m).map by8) (l ++ m).length;rw [List.map_append,List.length_append]; exact h1
theorem zFB {β:Type} {lo:Nat} {H:Heap} {x y:V} {l m:List Nat} {f:V → M β} {Q:β → Heap → Prop} (hx:Ab lo H x l) (hlo:lo ≤ H.next) (hy:acells 1 H y = some (m.map by8,m.length)) (hm:l.length + m.length ≤ 1099511627776)
  (k:∀ x' H',Ab lo H' x' (l ++ m) → Bel lo H H' → Ok (f x') H' Q):Ok ((mappend zaj 1 1 x y).bind f) H Q :=
 zFA hx hlo hy hm fun x' H' h1 h2 _=>k x' H' h1 h2
end Go.Ax.SU
/- Su5 -/
namespace Go.Ax.SU
open Go.Ax
inductive PH
 | err (e:Nat)
 | ok (kid ctr n:Nat)
end Go.Ax.SU
/- Ax26 -/
namespace Go.Ax
section
variable {b w:Bool} {v x y:V} {α β:Type} {H:Heap} {f:V → M β} {Q:β → Heap → Prop}
end
theorem zhW {α β:Type} {x:M α} {H:Heap} {f:α → M β} {Q:β → Heap → Prop}:@OkB α β x H ⟨f⟩ ⟨Q⟩ = Ok (x.bind f) H Q:=rfl
end Go.Ax
/- FnS1 -/
namespace Go.Ax
open Go.Proofs
def uL (o:Option V) (f:V → M Res):M Res:=(M.lift o).bind f
def uM (p:V) (f:V → M Res):M Res:=(mload none p).bind f
def uS (n:Nat) (p:V) (f:V → M Res):M Res:=(mload (some n) p).bind f
def uT (n:Nat) (p v:V) (f:V → M Res):M Res:=(mstore n p v).bind f
def uF (k:Nat) (p:V) (f:V → M Res):M Res:=(M.lift (Ax.faddr k p)).bind f
def uFM (k:Nat) (p:V) (f:V → M Res):M Res:=(M.lift (Ax.faddr k p)).bind fun a=>(mload none a).bind f
def uNFM (k:Nat) (p:V) (f:V → M Res):M Res:=(M.lift (Ax.nilck p)).bind fun a=>(M.lift (Ax.faddr k a)).bind fun b=>(mload none b).bind f
def uNF (k:Nat) (p:V) (f:V → M Res):M Res:=(M.lift (Ax.nilck p)).bind fun a=>(M.lift (Ax.faddr k a)).bind f
def uE (k:Nat) (p:V) (f:V → M Res):M Res:=(M.lift (Ax.ext k p)).bind f
def uB (b:BinOp) (x y:V) (f:V → M Res):M Res:=(M.lift (Ax.bin b x y)).bind f
def uI (n:Option Nat) (e:Nat) (p i:V) (f:V → M Res):M Res:=(M.lift (Ax.iaddr n e p i)).bind f
def uIM (n:Option Nat) (e:Nat) (p i:V) (f:V → M Res):M Res:=(M.lift (Ax.iaddr n e p i)).bind fun a=>(mload none a).bind f
def uG (c:V) (b:Bool) (x:M V) (f:V → M Res):M Res:=(guarded [(0,c)] (some (0,b)) x).bind f
def uH (c:V) (b:Bool) (o:Option V) (f:V → M Res):M Res:=(guarded [(0,c)] (some (0,b)) (M.lift o)).bind f
def uO (t:TypeId) (x:V) (f:V → M Res):M Res:=(mbox t x).bind f
def uU (p:V) (h k:Heap) (f:Unit → M Res):M Res:=(M.unch p h k).bind f
def uc (n:Int):V:=.int .i64 n
def ub (n:Int):V:=.int .u8 n
def uq (n:Int):V:=.int .u64 n
def ug (L:List V) (n:Nat):V:=L.getD n .undef
abbrev OkT (f:FuncId) (us:List V) (x:M Res):Prop:=∀ {H:Heap} {Q:V → Heap → Prop},Ok x H (fun r H'=>∃ L,r = .ret L ∧ Q (zm3 L) H') → Ok (sem T f us) H Q
theorem okT {f:FuncId} {us:List V} {x:M Res} (hT:T f = some (irOf f)) (hl:Nat.ble us.length (irOf f).ntmps = true) (hx:execK (sem T) (irOf f).rv (irOf f).body [] [] (params 0 us) = x):OkT f us x:=fun h=>ok_sem hT (Nat.le_of_ble_eq_true hl) hx h
def ir_desk_Desk_Do:Fn':=irOf zaY
def f_desk_Desk_Do (G:Sem') (t0 t1:V):M Res :=
 uO zd4 t1 fun t3 =>
 uFM 0 t3 fun t7 =>
 uB .lss t7 (uc 1) fun t8 =>
 uH t8 false (Ax.faddr 0 t3) fun t10 =>
 uG t8 false (mload none t10) fun t11 =>
 uH t8 false (Ax.bin .gtr t11 (uc 5)) fun t12 =>
 uL (Ax.pick t8 (V.bool true) t12) fun t13 =>
 uH t13 false (Ax.faddr 0 t3) fun t15 =>
 uG t13 false (mload none t15) fun t16 =>
 uH t13 false (Ax.bin .neq t16 (uc 3)) fun t17 =>
 uG t13 false (M.pure t17) fun t18 =>
 uH t18 true (Ax.faddr 0 t3) fun t19 =>
 uG t18 true (mload none t19) fun t20 =>
 uH t18 true (Ax.bin .neq t20 (uc 4)) fun t21 =>
 uH t13 false (Ax.pick t18 t21 (V.bool false)) fun t22 =>
 uG t13 false (M.pure t22) fun t23 =>
 uH t23 true (Ax.faddr 1 t3) fun t24 =>
 uG t23 true (mload none t24) fun t25 =>
 uG t23 true (G zcg [t25]) fun t26 =>
 uH t23 true (Ax.un .not t26) fun t27 =>
 uH t13 false (Ax.pick t23 t27 (V.bool false)) fun t28 =>
 uL (Ax.pick t13 (V.bool true) t28) fun t29 =>
 M.ite t29
 (M.pure (.ret [V.nils,(uc 1)]))
 (uFM 0 t3 fun t31 =>
 M.blk 0 (
 uB .eql t31 (uc 1) fun t47 =>
 M.join (M.ite t47
 (uFM 1 t3 fun t50 =>
 uFM 3 t3 fun t52 =>
 (G zbV [t0,t50,t52]).bind fun t53 =>
 M.pure (.nrm []))
 (uB .eql t31 (uc 2) fun t55 =>
 M.join (M.ite t55
 (uFM 1 t3 fun t58 =>
 uFM 3 t3 fun t60 =>
 (G zbk [t0,t58,t60]).bind fun t61 =>
 M.pure (.nrm []))
 (uB .eql t31 (uc 3) fun t63 =>
 M.join (M.ite t63
 (uFM 2 t3 fun t65 =>
 uB .lss t65 (uc 0) fun t66 =>
 uH t66 false (Ax.faddr 2 t3) fun t68 =>
 uG t66 false (mload none t68) fun t69 =>
 uH t66 false (Ax.bin .gtr t69 (uc 100000)) fun t70 =>
 uL (Ax.pick t66 (V.bool true) t70) fun t71 =>
 M.ite t71
 (M.pure (.ret [V.nils,(uc 1)]))
 (uFM 2 t3 fun t74 =>
 (G zcO [t0,t74]).bind fun t75 =>
 M.pure (.nrm [])))
 (uB .eql t31 (uc 4) fun t77 =>
 M.ite t77
 (uFM 2 t3 fun t79 =>
 uB .lss t79 (uc 0) fun t80 =>
 uH t80 false (Ax.faddr 2 t3) fun t82 =>
 uG t80 false (mload none t82) fun t83 =>
 uH t80 false (Ax.bin .gtr t83 (uc 4294967295)) fun t84 =>
 uL (Ax.pick t80 (V.bool true) t84) fun t85 =>
 M.ite t85
 (M.pure (.ret [V.nils,(uc 1)]))
 (uNFM 1469 t0 fun t89 =>
 uL (vlen t89) fun t90 =>
 uB .geq t90 (uc 16) fun t91 =>
 M.ite t91
 (M.pure (.ret [V.nils,(uc 5)]))
 (uNFM 1469 t0 fun t96 =>
 uFM 2 t3 fun t98 =>
 uL (Ax.cint .u32 t98) fun t99 =>
 (mslit zej 1 [(V.int .u32 0)] [(0,1,t99)]).bind fun t100 =>
 (mappend zej 1 4 t96 t100).bind fun t101 =>
 uNF 1469 t0 fun t103 =>
 uT 1 t103 t101 fun _ =>
 M.pure (.nrm []))))
 (uFM 2 t3 fun t33 =>
 uB .lss t33 (uc 0) fun t34 =>
 uH t34 false (Ax.faddr 2 t3) fun t36 =>
 uG t34 false (mload none t36) fun t37 =>
 uH t34 false (Ax.bin .gtr t37 (uc 32)) fun t38 =>
 uL (Ax.pick t34 (V.bool true) t38) fun t39 =>
 M.ite t39
 (M.pure (.ret [V.nils,(uc 1)]))
 (uFM 1 t3 fun t42 =>
 uFM 2 t3 fun t44 =>
 (G zba [t0,t42,t44]).bind fun t45 =>
 M.pure (.ret [t45,(uc 0)]))))) fun _ =>
 M.pure (.nrm []))) fun _ =>
 M.pure (.nrm []))) fun _ =>
 M.pure (.nrm [])) fun _ =>
 M.pure (.ret [V.nils,(uc 0)]))
theorem eq_desk_Desk_Do (G:Sem') (t0 t1:V):execK G ir_desk_Desk_Do.rv ir_desk_Desk_Do.body [] [] (params 0 [t0,t1]) = f_desk_Desk_Do G t0 t1:=by kernel_rfl
theorem tb_desk_Desk_Do:T zaY = some ir_desk_Desk_Do:=by kernel_rfl
theorem znP {t0 t1:V}:OkT zaY [t0,t1] (f_desk_Desk_Do (sem T) t0 t1):=okT (by kernel_rfl) (by kernel_rfl) (by kernel_rfl)
def ir_desk_addr:Fn':=irOf zcg
def f_desk_addr (G:Sem') (t0:V):M Res :=
 uB .geq t0 (uc 0) fun t4 =>
 uG t4 true (M.pure t0) fun t6 =>
 uH t4 true (Ax.bin .leq t6 (uc 63)) fun t7 =>
 uL (Ax.pick t4 t7 (V.bool false)) fun t8 =>
 M.pure (.ret [t8])
theorem eq_desk_addr (G:Sem') (t0:V):execK G ir_desk_addr.rv ir_desk_addr.body [] [] (params 0 [t0]) = f_desk_addr G t0:=by kernel_rfl
theorem tb_desk_addr:T zcg = some ir_desk_addr:=by kernel_rfl
theorem zAQ {t0:V}:OkT zcg [t0] (f_desk_addr (sem T) t0):=okT (by kernel_rfl) (by kernel_rfl) (by kernel_rfl)
def ir_post_Counts_One:Fn':=irOf zax
def f_post_Counts_One (G:Sem') (t0 t1:V):M Res :=
 uB .geq t1 (uc 0) fun t5 =>
 uG t5 true (M.pure t1) fun t7 =>
 uG t5 true (M.pure t0) fun t8 =>
 uH t5 true (Ax.nilck t8) fun t9 =>
 uH t5 true (Ax.faddr 0 t9) fun t10 =>
 uG t5 true (mload none t10) fun t11 =>
 uH t5 true (vlen t11) fun t12 =>
 uH t5 true (Ax.bin .lss t7 t12) fun t13 =>
 uL (Ax.pick t5 t13 (V.bool false)) fun t14 =>
 M.join (M.ite t14
 (uNFM 0 t0 fun t18 =>
 uI none 1 t18 t1 fun t20 =>
 (G zaT [t20,(uc 1)]).bind fun t21 =>
 M.pure (.nrm []))
 (M.pure (.nrm []))) fun _ =>
 M.pure (.ret [])
theorem eq_post_Counts_One (G:Sem') (t0 t1:V):execK G ir_post_Counts_One.rv ir_post_Counts_One.body [] [] (params 0 [t0,t1]) = f_post_Counts_One G t0 t1:=by kernel_rfl
theorem tb_post_Counts_One:T zax = some ir_post_Counts_One:=by kernel_rfl
theorem zrk {t0 t1:V}:OkT zax [t0,t1] (f_post_Counts_One (sem T) t0 t1):=okT (by kernel_rfl) (by kernel_rfl) (by kernel_rfl)
def ir_sync_atomic_Int64_Add:Fn':=irOf zaT
def f_sync_atomic_Int64_Add (G:Sem') (t0 t1:V):M Res :=
 uNF 0 t0 fun t7 =>
 (matoadd .i64 t7 t1).bind fun t9 =>
 M.pure (.ret [t9])
theorem eq_sync_atomic_Int64_Add (G:Sem') (t0 t1:V):execK G ir_sync_atomic_Int64_Add.rv ir_sync_atomic_Int64_Add.body [] [] (params 0 [t0,t1]) = f_sync_atomic_Int64_Add G t0 t1:=by kernel_rfl
theorem tb_sync_atomic_Int64_Add:T zaT = some ir_sync_atomic_Int64_Add:=by kernel_rfl
theorem zlJ {t0 t1:V}:OkT zaT [t0,t1] (f_sync_atomic_Int64_Add (sem T) t0 t1):=okT (by kernel_rfl) (by kernel_rfl) (by kernel_rfl)
def ir_desk_Desk_where:Fn':=irOf za9
def f_desk_Desk_where_0 (G:Sem') (t1 t0:V) (L:List V):M Res :=
 uB .lss (ug L 0) (uc 4) fun t11 =>
 M.ite t11
 (M.blk 1 (
 uNF 0 t0 fun t17 =>
 uI (some 4) 367 t17 (ug L 0) fun t18 =>
 uF 0 t18 fun t19 =>
 uF 0 t19 fun t20 =>
 uS 16 t20 fun t21 =>
 (G zb9 [t21,t1]).bind fun t23 =>
 uE 0 t23 fun t24 =>
 uE 1 t23 fun t25 =>
 M.ite t25
 (uNF 0 t0 fun t30 =>
 uI (some 4) 367 t30 (ug L 0) fun t31 =>
 M.pure (.ret [t31,t24,(V.bool true)]))
 (M.pure (.nrm []))) fun _ =>
 uB .add (ug L 0) (uc 1) fun t33 =>
 M.pure (.nrm [t33]))
 (M.pure (.ex 0 []))
def f_desk_Desk_where (G:Sem') (t0 t1:V):M Res :=
 M.blk 0 (
 M.iter (f_desk_Desk_where_0 G t1 t0) [(uc 0)]) fun _ =>
 M.pure (.ret [V.nilp,(uc 0),(V.bool false)])
theorem eq_desk_Desk_where (G:Sem') (t0 t1:V):execK G ir_desk_Desk_where.rv ir_desk_Desk_where.body [] [] (params 0 [t0,t1]) = f_desk_Desk_where G t0 t1:=by kernel_rfl
theorem tb_desk_Desk_where:T za9 = some ir_desk_Desk_where:=by kernel_rfl
theorem zrm {t0 t1:V}:OkT za9 [t0,t1] (f_desk_Desk_where (sem T) t0 t1):=okT (by kernel_rfl) (by kernel_rfl) (by kernel_rfl)
def ir_slots_Find:Fn':=irOf zb9
def f_slots_Find (G:Sem') (t0 t1:V):M Res :=
 uO zav t0 fun t2 =>
 uS 16 t2 fun t6 =>
 (G zbs [t6]).bind fun t7 =>
 uL (Ax.un .not t7) fun t8 =>
 M.ite t8
 (M.pure (.ret [(uc 0),(V.bool false)]))
 (uS 16 t2 fun t9 =>
 (G zbM [t9,t1]).bind fun t11 =>
 uE 0 t11 fun t12 =>
 uE 1 t11 fun t13 =>
 M.pure (.ret [t12,t13]))
theorem eq_slots_Find (G:Sem') (t0 t1:V):execK G ir_slots_Find.rv ir_slots_Find.body [] [] (params 0 [t0,t1]) = f_slots_Find G t0 t1:=by kernel_rfl
theorem tb_slots_Find:T zb9 = some ir_slots_Find:=by kernel_rfl
theorem zy3 {t0 t1:V}:OkT zb9 [t0,t1] (f_slots_Find (sem T) t0 t1):=okT (by kernel_rfl) (by kernel_rfl) (by kernel_rfl)
def ir_slots_Good:Fn':=irOf zbs
def f_slots_Good_0 (G:Sem') (t8 t1:V) (L:List V):M Res :=
 uB .lss (ug L 0) (uc 8) fun t10 =>
 M.ite t10
 (M.blk 1 (
 uL (Ax.index 8 1 none t8 (ug L 0)) fun t12 =>
 uF 0 t1 fun t14 =>
 uIM (some 8) 1 t14 (ug L 0) fun t16 =>
 uL (Ax.un .not t16) fun t17 =>
 M.ite t17
 (uB .neq t12 (uc 0) fun t19 =>
 M.ite t19
 (M.pure (.ret [(V.bool false)]))
 (M.pure (.ex 1 [])))
 (uS 16 t1 fun t21 =>
 (G zbM [t21,t12]).bind fun t23 =>
 uE 0 t23 fun t24 =>
 uE 1 t23 fun t25 =>
 uB .neq t24 (ug L 0) fun t28 =>
 uG t28 false (M.pure t12) fun t30 =>
 uG t28 false (G zb8 [t30]) fun t31 =>
 uH t28 false (Ax.un .not t31) fun t32 =>
 uL (Ax.pick t28 (V.bool true) t32) fun t33 =>
 M.ite t33
 (M.pure (.ret [(V.bool false)]))
 (M.pure (.nrm [])))) fun _ =>
 uB .add (ug L 0) (uc 1) fun t34 =>
 M.pure (.nrm [t34]))
 (M.pure (.ex 0 []))
def f_slots_Good (G:Sem') (t0:V):M Res :=
 uO zav t0 fun t1 =>
 uF 8 t1 fun t7 =>
 uS 8 t7 fun t8 =>
 M.blk 0 (
 M.iter (f_slots_Good_0 G t8 t1) [(uc 0)]) fun _ =>
 M.pure (.ret [(V.bool true)])
theorem eq_slots_Good (G:Sem') (t0:V):execK G ir_slots_Good.rv ir_slots_Good.body [] [] (params 0 [t0]) = f_slots_Good G t0:=by kernel_rfl
theorem tb_slots_Good:T zbs = some ir_slots_Good:=by kernel_rfl
theorem zy2 {t0:V}:OkT zbs [t0] (f_slots_Good (sem T) t0):=okT (by kernel_rfl) (by kernel_rfl) (by kernel_rfl)
def ir_slots_find:Fn':=irOf zbM
def f_slots_find_0 (G:Sem') (t9 t2 t1:V) (L:List V):M Res :=
 uB .lss (ug L 0) (uc 8) fun t11 =>
 M.ite t11
 (M.blk 1 (
 uL (Ax.index 8 1 none t9 (ug L 0)) fun t13 =>
 uF 0 t2 fun t15 =>
 uIM (some 8) 1 t15 (ug L 0) fun t17 =>
 uG t17 true (M.pure t1) fun t19 =>
 uG t17 true (M.pure t13) fun t20 =>
 uH t17 true (Ax.bin .eql t19 t20) fun t21 =>
 uL (Ax.pick t17 t21 (V.bool false)) fun t22 =>
 M.ite t22
 (M.pure (.ret [(ug L 0),(V.bool true)]))
 (M.pure (.nrm []))) fun _ =>
 uB .add (ug L 0) (uc 1) fun t24 =>
 M.pure (.nrm [t24]))
 (M.pure (.ex 0 []))
def f_slots_find (G:Sem') (t0 t1:V):M Res :=
 uO zav t0 fun t2 =>
 uF 8 t2 fun t8 =>
 uS 8 t8 fun t9 =>
 M.blk 0 (
 M.iter (f_slots_find_0 G t9 t2 t1) [(uc 0)]) fun _ =>
 M.pure (.ret [(uc 0),(V.bool false)])
theorem eq_slots_find (G:Sem') (t0 t1:V):execK G ir_slots_find.rv ir_slots_find.body [] [] (params 0 [t0,t1]) = f_slots_find G t0 t1:=by kernel_rfl
theorem tb_slots_find:T zbM = some ir_slots_find:=by kernel_rfl
theorem zy0 {t0 t1:V}:OkT zbM [t0,t1] (f_slots_find (sem T) t0 t1):=okT (by kernel_rfl) (by kernel_rfl) (by kernel_rfl)
def ir_slots_addr:Fn':=irOf zb8
def f_slots_addr (G:Sem') (t0:V):M Res :=
 uB .geq t0 (uc 0) fun t4 =>
 uG t4 true (M.pure t0) fun t6 =>
 uH t4 true (Ax.bin .leq t6 (uc 63)) fun t7 =>
 uL (Ax.pick t4 t7 (V.bool false)) fun t8 =>
 M.pure (.ret [t8])
theorem eq_slots_addr (G:Sem') (t0:V):execK G ir_slots_addr.rv ir_slots_addr.body [] [] (params 0 [t0]) = f_slots_addr G t0:=by kernel_rfl
theorem tb_slots_addr:T zb8 = some ir_slots_addr:=by kernel_rfl
theorem zy1 {t0:V}:OkT zb8 [t0] (f_slots_addr (sem T) t0):=okT (by kernel_rfl) (by kernel_rfl) (by kernel_rfl)
end Go.Ax
/- FnS2 -/
namespace Go.Ax
open Go.Proofs
def ir_bytes_Clone:Fn':=irOf zaI
def f_bytes_Clone (G:Sem') (t0:V):M Res :=
 uL (eqr .sl false t0 V.nils) fun t4 =>
 M.ite t4
 (M.pure (.ret [V.nils]))
 ((mslit zaj 0 [(ub 0)] []).bind fun t5 =>
 (mappend zaj 1 1 t5 t0).bind fun t7 =>
 M.pure (.ret [t7]))
theorem eq_bytes_Clone (G:Sem') (t0:V):execK G ir_bytes_Clone.rv ir_bytes_Clone.body [] [] (params 0 [t0]) = f_bytes_Clone G t0:=by kernel_rfl
theorem tb_bytes_Clone:T zaI = some ir_bytes_Clone:=by kernel_rfl
theorem zxo {t0:V}:OkT zaI [t0] (f_bytes_Clone (sem T) t0):=okT (by kernel_rfl) (by kernel_rfl) (by kernel_rfl)
def ir_desk_Desk_tell:Fn':=irOf za1
def f_desk_Desk_tell (G:Sem') (t0 t1 t2 t3:V):M Res :=
 uNF 1470 t0 fun t11 =>
 uI (some 64) 1 t11 t1 fun t12 =>
 uM t12 fun t13 =>
 M.getH.bind fun h0 =>
 (G zaI [t3]).bind fun t17 =>
 M.getH.bind fun h0' =>
 uU t12 h0 h0' fun _ =>
 uL (Ax.build [(uc 0),(uc 0),V.nils] [(0,1,t1),(1,1,t2),(2,1,t17)]) fun t18 =>
 (G zaH [t13,t18]).bind fun t19 =>
 uL (Ax.un .not t19) fun t20 =>
 M.join (M.ite t20
 (uNFM 1534 t0 fun t24 =>
 (G zax [t24,(uc 10)]).bind fun t25 =>
 M.pure (.nrm []))
 (M.pure (.nrm []))) fun _ =>
 M.pure (.ret [])
theorem eq_desk_Desk_tell (G:Sem') (t0 t1 t2 t3:V):execK G ir_desk_Desk_tell.rv ir_desk_Desk_tell.body [] [] (params 0 [t0,t1,t2,t3]) = f_desk_Desk_tell G t0 t1 t2 t3:=by kernel_rfl
theorem tb_desk_Desk_tell:T za1 = some ir_desk_Desk_tell:=by kernel_rfl
theorem zsY {t0 t1 t2 t3:V}:OkT za1 [t0,t1,t2,t3] (f_desk_Desk_tell (sem T) t0 t1 t2 t3):=okT (by kernel_rfl) (by kernel_rfl) (by kernel_rfl)
def ir_post_Post_desk_Out_Add:Fn':=irOf zaH
def f_post_Post_desk_Out_Add (G:Sem') (t0 t1:V):M Res :=
 uO zbD t1 fun t3 =>
 uNFM 1 t0 fun t8 =>
 uL (vlen t8) fun t9 =>
 uNFM 0 t0 fun t13 =>
 uB .geq t9 t13 fun t14 =>
 M.ite t14
 (M.pure (.ret [(V.bool false)]))
 (uNFM 1 t0 fun t19 =>
 uS 3 t3 fun t20 =>
 (mslit zbD 1 [(uc 0),(uc 0),V.nils] [(0,3,t20)]).bind fun t21 =>
 (mappend zbD 3 40 t19 t21).bind fun t22 =>
 uNF 1 t0 fun t24 =>
 uT 1 t24 t22 fun _ =>
 M.pure (.ret [(V.bool true)]))
theorem eq_post_Post_desk_Out_Add (G:Sem') (t0 t1:V):execK G ir_post_Post_desk_Out_Add.rv ir_post_Post_desk_Out_Add.body [] [] (params 0 [t0,t1]) = f_post_Post_desk_Out_Add G t0 t1:=by kernel_rfl
theorem tb_post_Post_desk_Out_Add:T zaH = some ir_post_Post_desk_Out_Add:=by kernel_rfl
theorem zk7 {t0 t1:V}:OkT zaH [t0,t1] (f_post_Post_desk_Out_Add (sem T) t0 t1):=okT (by kernel_rfl) (by kernel_rfl) (by kernel_rfl)
end Go.Ax
/- FnS3 -/
namespace Go.Ax
open Go.Proofs
end Go.Ax
/- FnS4 -/
namespace Go.Ax
open Go.Proofs
end Go.Ax
/- FnS5 -/
namespace Go.Ax
open Go.Proofs
end Go.Ax
/- FnS6 -/
namespace Go.Ax
open Go.Proofs
def ir_desk_Desk_note:Fn':=irOf zbk
def f_desk_Desk_note (G:Sem') (t0 t1 t2:V):M Res :=
 (G zcp [t2]).bind fun t13 =>
 uE 0 t13 fun t14 =>
 uE 1 t13 fun t15 =>
 uO zag (V.agg [(uc 0),(uc 0),(uc 0),(uc 0),(uc 0),(uc 0),V.nils]) fun t6 =>
 uT 7 t6 t14 fun _ =>
 uB .eql t15 (uc 0) fun t17 =>
 uH t17 true (Ax.faddr 0 t6) fun t19 =>
 uG t17 true (mload none t19) fun t20 =>
 uH t17 true (Ax.bin .gtr t20 (uc 9)) fun t21 =>
 uL (Ax.pick t17 t21 (V.bool false)) fun t22 =>
 M.join (M.ite t22
 (M.pure (.nrm [(uc 1)]))
 (M.pure (.nrm [t15]))) fun L0 =>
 uB .neq (ug L0 0) (uc 0) fun t24 =>
 M.ite t24
 ((G zbx [t0,t1,(ug L0 0),(uc 0)]).bind fun t28 =>
 M.pure (.ret []))
 ((G za9 [t0,t1]).bind fun t32 =>
 uE 0 t32 fun t33 =>
 uE 1 t32 fun t34 =>
 uE 2 t32 fun t35 =>
 M.join (M.ite t35
 ((G zb5 [t0,t33,t1]).bind fun t40 =>
 M.pure (.nrm []))
 (M.pure (.nrm []))) fun _ =>
 M.blk 0 (
 uFM 0 t6 fun t48 =>
 uB .eql t48 (uc 1) fun t49 =>
 uG t49 true (M.pure t35) fun t51 =>
 uL (Ax.pick t49 t51 (V.bool false)) fun t52 =>
 M.join (M.ite t52
 (M.pure (.nrm [(uc 7)]))
 (uFM 0 t6 fun t55 =>
 uB .eql t55 (uc 1) fun t56 =>
 M.join (M.ite t56
 (uS 7 t6 fun t59 =>
 (G zcR [t0,t1,t59]).bind fun t60 =>
 M.pure (.nrm [t60]))
 (uL (Ax.un .not t35) fun t63 =>
 M.join (M.ite t63
 (M.pure (.nrm [(uc 6)]))
 (uS 7 t6 fun t44 =>
 (G zcP [t0,t33,t34,t44]).bind fun t45 =>
 M.pure (.nrm [t45]))) fun L2 =>
 M.pure (.nrm [(ug L2 0)]))) fun L3 =>
 M.pure (.nrm [(ug L3 0)]))) fun L4 =>
 M.pure (.nrm [(ug L4 0)])) fun L5 =>
 uB .neq (ug L5 0) (uc 0) fun t65 =>
 M.join (M.ite t65
 (uFM 0 t6 fun t70 =>
 (G zbx [t0,t1,(ug L5 0),t70]).bind fun t71 =>
 M.pure (.nrm []))
 (M.pure (.nrm []))) fun _ =>
 M.pure (.ret []))
theorem eq_desk_Desk_note (G:Sem') (t0 t1 t2:V):execK G ir_desk_Desk_note.rv ir_desk_Desk_note.body [] [] (params 0 [t0,t1,t2]) = f_desk_Desk_note G t0 t1 t2:=by kernel_rfl
theorem tb_desk_Desk_note:T zbk = some ir_desk_Desk_note:=by kernel_rfl
theorem zsZ {t0 t1 t2:V}:OkT zbk [t0,t1,t2] (f_desk_Desk_note (sem T) t0 t1 t2):=okT (by kernel_rfl) (by kernel_rfl) (by kernel_rfl)
def ir_note_Parse:Fn':=irOf zcp
def f_note_Parse (G:Sem') (t0:V):M Res :=
 uO zeI t0 fun t1 =>
 uO zag (V.agg [(uc 0),(uc 0),(uc 0),(uc 0),(uc 0),(uc 0),V.nils]) fun t2 =>
 uM t1 fun t8 =>
 uL (vlen t8) fun t9 =>
 uB .lss t9 (uc 11) fun t10 =>
 M.ite t10
 (uL (Ax.build [(uc 0),(uc 0),(uc 0),(uc 0),(uc 0),(uc 0),V.nils] []) fun t11 =>
 uT 7 t2 t11 fun _ =>
 uS 7 t2 fun r0 =>
 M.pure (.ret [r0,(uc 3)]))
 ((M.pure (.fn zbd [t1])).bind fun t12 =>
 uM t1 fun t13 =>
 uI none 1 t13 (uc 0) fun t14 =>
 uM t14 fun t15 =>
 uL (Ax.cint .i64 t15) fun t16 =>
 uM t1 fun t17 =>
 uI none 1 t17 (uc 1) fun t18 =>
 uM t18 fun t19 =>
 uL (Ax.cint .i64 t19) fun t20 =>
 uM t1 fun t21 =>
 uI none 1 t21 (uc 2) fun t22 =>
 uM t22 fun t23 =>
 uL (Ax.cint .i64 t23) fun t24 =>
 M.getH.bind fun h0 =>
 (callv G t12 [(uc 3)]).bind fun t26 =>
 M.getH.bind fun h0' =>
 uU t22 h0 h0' fun _ =>
 uU t1 h0 h0' fun _ =>
 uU t18 h0 h0' fun _ =>
 uU t1 h0 h0' fun _ =>
 uU t14 h0 h0' fun _ =>
 uU t1 h0 h0' fun _ =>
 M.getH.bind fun h1 =>
 (callv G t12 [(uc 5)]).bind fun t28 =>
 M.getH.bind fun h1' =>
 uU t22 h1 h1' fun _ =>
 uU t1 h1 h1' fun _ =>
 uU t18 h1 h1' fun _ =>
 uU t1 h1 h1' fun _ =>
 uU t14 h1 h1' fun _ =>
 uU t1 h1 h1' fun _ =>
 M.getH.bind fun h2 =>
 (callv G t12 [(uc 7)]).bind fun t30 =>
 M.getH.bind fun h2' =>
 uU t22 h2 h2' fun _ =>
 uU t1 h2 h2' fun _ =>
 uU t18 h2 h2' fun _ =>
 uU t1 h2 h2' fun _ =>
 uU t14 h2 h2' fun _ =>
 uU t1 h2 h2' fun _ =>
 uL (Ax.build [(uc 0),(uc 0),(uc 0),(uc 0),(uc 0),(uc 0),V.nils] [(0,1,t16),(1,1,t20),(2,1,t24),(3,1,t26),(4,1,t28),(5,1,t30)]) fun t31 =>
 uO zag (V.agg [(uc 0),(uc 0),(uc 0),(uc 0),(uc 0),(uc 0),V.nils]) fun t5 =>
 uT 7 t5 t31 fun _ =>
 uM t1 fun t34 =>
 uL (zbr .sl 1 t34 (some (uc 11)) none none) fun t35 =>
 M.getH.bind fun h3 =>
 (callv G t12 [(uc 9)]).bind fun t33 =>
 M.getH.bind fun h3' =>
 uU t1 h3 h3' fun _ =>
 M.blk 0 (
 uB .gtr t33 (uc 200) fun t38 =>
 M.ite t38
 (uL (Ax.build [(uc 0),(uc 0),(uc 0),(uc 0),(uc 0),(uc 0),V.nils] []) fun t39 =>
 uT 7 t2 t39 fun _ =>
 uS 7 t2 fun r0 =>
 M.pure (.ret [r0,(uc 4)]))
 (uL (vlen t35) fun t43 =>
 uB .gtr t33 t43 fun t44 =>
 M.ite t44
 (uL (Ax.build [(uc 0),(uc 0),(uc 0),(uc 0),(uc 0),(uc 0),V.nils] []) fun t45 =>
 uT 7 t2 t45 fun _ =>
 uS 7 t2 fun r0 =>
 M.pure (.ret [r0,(uc 3)]))
 (uL (vlen t35) fun t49 =>
 uB .lss t33 t49 fun t50 =>
 M.ite t50
 (uL (Ax.build [(uc 0),(uc 0),(uc 0),(uc 0),(uc 0),(uc 0),V.nils] []) fun t51 =>
 uT 7 t2 t51 fun _ =>
 uS 7 t2 fun r0 =>
 M.pure (.ret [r0,(uc 2)]))
 (M.pure (.nrm []))))) fun _ =>
 (G zaI [t35]).bind fun t53 =>
 uF 6 t5 fun t54 =>
 uT 1 t54 t53 fun _ =>
 uS 7 t5 fun t55 =>
 (G zce [t55]).bind fun t56 =>
 uL (Ax.un .not t56) fun t57 =>
 M.ite t57
 (uL (Ax.build [(uc 0),(uc 0),(uc 0),(uc 0),(uc 0),(uc 0),V.nils] []) fun t58 =>
 uT 7 t2 t58 fun _ =>
 uS 7 t2 fun r0 =>
 M.pure (.ret [r0,(uc 2)]))
 (uS 7 t5 fun t59 =>
 uT 7 t2 t59 fun _ =>
 uS 7 t2 fun r0 =>
 M.pure (.ret [r0,(uc 0)])))
theorem eq_note_Parse (G:Sem') (t0:V):execK G ir_note_Parse.rv ir_note_Parse.body [] [] (params 0 [t0]) = f_note_Parse G t0:=by kernel_rfl
theorem tb_note_Parse:T zcp = some ir_note_Parse:=by kernel_rfl
theorem zy4 {t0:V}:OkT zcp [t0] (f_note_Parse (sem T) t0):=okT (by kernel_rfl) (by kernel_rfl) (by kernel_rfl)
def ir_note_Parse_1:Fn':=irOf zbd
def f_note_Parse_1 (G:Sem') (t0 t1:V):M Res :=
 uM t1 fun t4 =>
 uIM none 1 t4 t0 fun t7 =>
 uL (Ax.cint .i64 t7) fun t8 =>
 uB .shl t8 (uq 8) fun t9 =>
 uM t1 fun t10 =>
 uB .add t0 (uc 1) fun t12 =>
 uIM none 1 t10 t12 fun t14 =>
 uL (Ax.cint .i64 t14) fun t15 =>
 uB .or t9 t15 fun t16 =>
 M.pure (.ret [t16])
theorem eq_note_Parse_1 (G:Sem') (t0 t1:V):execK G ir_note_Parse_1.rv ir_note_Parse_1.body [] [] (params 0 [t0,t1]) = f_note_Parse_1 G t0 t1:=by kernel_rfl
theorem tb_note_Parse_1:T zbd = some ir_note_Parse_1:=by kernel_rfl
theorem zvL {t0 t1:V}:OkT zbd [t0,t1] (f_note_Parse_1 (sem T) t0 t1):=okT (by kernel_rfl) (by kernel_rfl) (by kernel_rfl)
def ir_note_Good:Fn':=irOf zce
def f_note_Good (G:Sem') (t0:V):M Res :=
 uO zag t0 fun t1 =>
 uFM 0 t1 fun t7 =>
 (G zet [t7]).bind fun t8 =>
 uE 0 t8 fun t9 =>
 uE 1 t8 fun t10 =>
 uO ze4 (V.agg [(uc 0),(uc 0),(uc 0),(uc 0),(uc 0),(uc 0),(uc 0)]) fun t3 =>
 uT 7 t3 t9 fun _ =>
 uL (Ax.un .not t10) fun t12 =>
 uH t12 false (Ax.faddr 1 t1) fun t14 =>
 uG t12 false (mload none t14) fun t15 =>
 uH t12 false (Ax.faddr 0 t3) fun t16 =>
 uG t12 false (mload none t16) fun t17 =>
 uG t12 false (G zaW [t15,t17]) fun t18 =>
 uH t12 false (Ax.un .not t18) fun t19 =>
 uL (Ax.pick t12 (V.bool true) t19) fun t20 =>
 uH t20 false (Ax.faddr 2 t1) fun t22 =>
 uG t20 false (mload none t22) fun t23 =>
 uH t20 false (Ax.faddr 1 t3) fun t24 =>
 uG t20 false (mload none t24) fun t25 =>
 uG t20 false (G zaW [t23,t25]) fun t26 =>
 uH t20 false (Ax.un .not t26) fun t27 =>
 uL (Ax.pick t20 (V.bool true) t27) fun t28 =>
 uH t28 false (Ax.faddr 3 t1) fun t30 =>
 uG t28 false (mload none t30) fun t31 =>
 uH t28 false (Ax.faddr 2 t3) fun t32 =>
 uG t28 false (mload none t32) fun t33 =>
 uG t28 false (G zaW [t31,t33]) fun t34 =>
 uH t28 false (Ax.un .not t34) fun t35 =>
 uL (Ax.pick t28 (V.bool true) t35) fun t36 =>
 uH t36 false (Ax.faddr 4 t1) fun t38 =>
 uG t36 false (mload none t38) fun t39 =>
 uH t36 false (Ax.faddr 3 t3) fun t40 =>
 uG t36 false (mload none t40) fun t41 =>
 uG t36 false (G zaW [t39,t41]) fun t42 =>
 uH t36 false (Ax.un .not t42) fun t43 =>
 uL (Ax.pick t36 (V.bool true) t43) fun t44 =>
 uH t44 false (Ax.faddr 5 t1) fun t46 =>
 uG t44 false (mload none t46) fun t47 =>
 uH t44 false (Ax.faddr 4 t3) fun t48 =>
 uG t44 false (mload none t48) fun t49 =>
 uG t44 false (G zaW [t47,t49]) fun t50 =>
 uH t44 false (Ax.un .not t50) fun t51 =>
 uL (Ax.pick t44 (V.bool true) t51) fun t52 =>
 uH t52 false (Ax.faddr 6 t1) fun t54 =>
 uG t52 false (mload none t54) fun t55 =>
 uH t52 false (vlen t55) fun t56 =>
 uH t52 false (Ax.faddr 5 t3) fun t57 =>
 uG t52 false (mload none t57) fun t58 =>
 uH t52 false (Ax.bin .lss t56 t58) fun t59 =>
 uL (Ax.pick t52 (V.bool true) t59) fun t60 =>
 uH t60 false (Ax.faddr 6 t1) fun t62 =>
 uG t60 false (mload none t62) fun t63 =>
 uH t60 false (vlen t63) fun t64 =>
 uH t60 false (Ax.faddr 6 t3) fun t65 =>
 uG t60 false (mload none t65) fun t66 =>
 uH t60 false (Ax.bin .gtr t64 t66) fun t67 =>
 uL (Ax.pick t60 (V.bool true) t67) fun t68 =>
 M.ite t68
 (M.pure (.ret [(V.bool false)]))
 (uFM 0 t1 fun t70 =>
 M.blk 0 (
 uB .eql t70 (uc 17) fun t72 =>
 M.ite t72
 (uS 7 t1 fun t73 =>
 (G zdI [t73]).bind fun t74 =>
 M.pure (.ret [t74]))
 (uB .eql t70 (uc 18) fun t76 =>
 M.ite t76
 (uFM 4 t1 fun t78 =>
 uB .geq t78 (uc 1) fun t79 =>
 M.pure (.ret [t79]))
 (uB .eql t70 (uc 19) fun t81 =>
 M.ite t81
 (uFM 4 t1 fun t83 =>
 uFM 2 t1 fun t85 =>
 uB .shr t83 t85 fun t86 =>
 uB .and t86 (uc 1) fun t87 =>
 uB .eql t87 (uc 1) fun t88 =>
 M.pure (.ret [t88]))
 (uB .eql t70 (uc 20) fun t90 =>
 M.ite t90
 (uFM 4 t1 fun t92 =>
 uFM 2 t1 fun t94 =>
 uB .shr t92 t94 fun t95 =>
 uB .and t95 (uc 1) fun t96 =>
 uB .eql t96 (uc 0) fun t97 =>
 M.pure (.ret [t97]))
 (M.pure (.nrm [])))))) fun _ =>
 M.pure (.ret [(V.bool true)]))
theorem eq_note_Good (G:Sem') (t0:V):execK G ir_note_Good.rv ir_note_Good.body [] [] (params 0 [t0]) = f_note_Good G t0:=by kernel_rfl
theorem tb_note_Good:T zce = some ir_note_Good:=by kernel_rfl
theorem zAP {t0:V}:OkT zce [t0] (f_note_Good (sem T) t0):=okT (by kernel_rfl) (by kernel_rfl) (by kernel_rfl)
def ir_note_of:Fn':=irOf zet
def f_note_of (G:Sem') (t0:V):M Res :=
 uO ze4 (V.agg [(uc 0),(uc 0),(uc 0),(uc 0),(uc 0),(uc 0),(uc 0)]) fun t2 =>
 M.blk 0 (
 uB .eql t0 (uc 1) fun t6 =>
 M.ite t6
 (uL (Ax.build [(uc 0),(uc 0),(uc 0),(uc 0),(uc 0),(uc 0),(uc 0)] [(0,1,(uc 3))]) fun t7 =>
 uT 7 t2 t7 fun _ =>
 uS 7 t2 fun r0 =>
 M.pure (.ret [r0,(V.bool true)]))
 (uB .eql t0 (uc 2) fun t9 =>
 M.join (M.ite t9
 (M.pure (.nrm [t9]))
 (uB .eql t0 (uc 9) fun t10 =>
 M.join (M.ite t10
 (M.pure (.nrm [t10]))
 (uB .eql t0 (uc 23) fun t11 =>
 M.pure (.nrm [t11]))) fun L0 =>
 M.pure (.nrm [(ug L0 0)]))) fun L1 =>
 M.ite (ug L1 0)
 (uL (Ax.build [(uc 0),(uc 0),(uc 0),(uc 0),(uc 0),(uc 0),(uc 0)] []) fun t12 =>
 uT 7 t2 t12 fun _ =>
 uS 7 t2 fun r0 =>
 M.pure (.ret [r0,(V.bool true)]))
 (uB .eql t0 (uc 3) fun t14 =>
 M.join (M.ite t14
 (M.pure (.nrm [t14]))
 (uB .eql t0 (uc 6) fun t15 =>
 M.pure (.nrm [t15]))) fun L2 =>
 M.ite (ug L2 0)
 (uL (Ax.build [(uc 0),(uc 0),(uc 0),(uc 0),(uc 0),(uc 0),(uc 0)] [(1,1,(uc 7))]) fun t16 =>
 uT 7 t2 t16 fun _ =>
 uS 7 t2 fun r0 =>
 M.pure (.ret [r0,(V.bool true)]))
 (uB .eql t0 (uc 4) fun t18 =>
 M.ite t18
 (uL (Ax.build [(uc 0),(uc 0),(uc 0),(uc 0),(uc 0),(uc 0),(uc 0)] [(3,1,(uc 2)),(4,1,(uc 65535)),(5,1,(uc 4)),(6,1,(uc 4))]) fun t19 =>
 uT 7 t2 t19 fun _ =>
 uS 7 t2 fun r0 =>
 M.pure (.ret [r0,(V.bool true)]))
 (uB .eql t0 (uc 5) fun t21 =>
 M.ite t21
 (uL (Ax.build [(uc 0),(uc 0),(uc 0),(uc 0),(uc 0),(uc 0),(uc 0)] [(1,1,(uc 7)),(3,1,(uc 3)),(4,1,(uc 7))]) fun t22 =>
 uT 7 t2 t22 fun _ =>
 uS 7 t2 fun r0 =>
 M.pure (.ret [r0,(V.bool true)]))
 (uB .eql t0 (uc 7) fun t24 =>
 M.join (M.ite t24
 (M.pure (.nrm [t24]))
 (uB .eql t0 (uc 21) fun t25 =>
 M.pure (.nrm [t25]))) fun L3 =>
 M.ite (ug L3 0)
 (uL (Ax.build [(uc 0),(uc 0),(uc 0),(uc 0),(uc 0),(uc 0),(uc 0)] [(1,1,(uc 7)),(2,1,(uc 65535)),(3,1,(uc 31)),(5,1,(uc 1)),(6,1,(uc 200))]) fun t26 =>
 uT 7 t2 t26 fun _ =>
 uS 7 t2 fun r0 =>
 M.pure (.ret [r0,(V.bool true)]))
 (uB .eql t0 (uc 8) fun t28 =>
 M.join (M.ite t28
 (M.pure (.nrm [t28]))
 (uB .eql t0 (uc 22) fun t29 =>
 M.pure (.nrm [t29]))) fun L4 =>
 M.ite (ug L4 0)
 (uL (Ax.build [(uc 0),(uc 0),(uc 0),(uc 0),(uc 0),(uc 0),(uc 0)] [(2,1,(uc 65535))]) fun t30 =>
 uT 7 t2 t30 fun _ =>
 uS 7 t2 fun r0 =>
 M.pure (.ret [r0,(V.bool true)]))
 (uB .eql t0 (uc 17) fun t32 =>
 M.ite t32
 (uL (Ax.build [(uc 0),(uc 0),(uc 0),(uc 0),(uc 0),(uc 0),(uc 0)] [(0,1,(uc 3)),(1,1,(uc 7)),(2,1,(uc 65535)),(3,1,(uc 255)),(4,1,(uc 65535)),(5,1,(uc 8)),(6,1,(uc 8))]) fun t33 =>
 uT 7 t2 t33 fun _ =>
 uS 7 t2 fun r0 =>
 M.pure (.ret [r0,(V.bool true)]))
 (uB .eql t0 (uc 18) fun t35 =>
 M.ite t35
 (uL (Ax.build [(uc 0),(uc 0),(uc 0),(uc 0),(uc 0),(uc 0),(uc 0)] [(3,1,(uc 13)),(4,1,(uc 9))]) fun t36 =>
 uT 7 t2 t36 fun _ =>
 uS 7 t2 fun r0 =>
 M.pure (.ret [r0,(V.bool true)]))
 (uB .eql t0 (uc 19) fun t38 =>
 M.ite t38
 (uL (Ax.build [(uc 0),(uc 0),(uc 0),(uc 0),(uc 0),(uc 0),(uc 0)] [(1,1,(uc 7)),(2,1,(uc 65535)),(3,1,(uc 255)),(4,1,(uc 63))]) fun t39 =>
 uT 7 t2 t39 fun _ =>
 uS 7 t2 fun r0 =>
 M.pure (.ret [r0,(V.bool true)]))
 (uB .eql t0 (uc 20) fun t41 =>
 M.ite t41
 (uL (Ax.build [(uc 0),(uc 0),(uc 0),(uc 0),(uc 0),(uc 0),(uc 0)] [(1,1,(uc 7)),(2,1,(uc 65535)),(3,1,(uc 255))]) fun t42 =>
 uT 7 t2 t42 fun _ =>
 uS 7 t2 fun r0 =>
 M.pure (.ret [r0,(V.bool true)]))
 (uB .eql t0 (uc 24) fun t44 =>
 M.ite t44
 (uL (Ax.build [(uc 0),(uc 0),(uc 0),(uc 0),(uc 0),(uc 0),(uc 0)] [(1,1,(uc 7)),(5,1,(uc 4)),(6,1,(uc 4))]) fun t45 =>
 uT 7 t2 t45 fun _ =>
 uS 7 t2 fun r0 =>
 M.pure (.ret [r0,(V.bool true)]))
 (M.pure (.nrm [])))))))))))))) fun _ =>
 uL (Ax.build [(uc 0),(uc 0),(uc 0),(uc 0),(uc 0),(uc 0),(uc 0)] []) fun t46 =>
 uT 7 t2 t46 fun _ =>
 uS 7 t2 fun r0 =>
 M.pure (.ret [r0,(V.bool false)])
theorem eq_note_of (G:Sem') (t0:V):execK G ir_note_of.rv ir_note_of.body [] [] (params 0 [t0]) = f_note_of G t0:=by kernel_rfl
theorem tb_note_of:T zet = some ir_note_of:=by kernel_rfl
theorem zEd {t0:V}:OkT zet [t0] (f_note_of (sem T) t0):=okT (by kernel_rfl) (by kernel_rfl) (by kernel_rfl)
def ir_note_within:Fn':=irOf zaW
def f_note_within (G:Sem') (t0 t1:V):M Res :=
 uB .geq t0 (uc 0) fun t6 =>
 uG t6 true (M.pure t0) fun t8 =>
 uG t6 true (M.pure t1) fun t9 =>
 uH t6 true (Ax.bin .leq t8 t9) fun t10 =>
 uL (Ax.pick t6 t10 (V.bool false)) fun t11 =>
 M.pure (.ret [t11])
theorem eq_note_within (G:Sem') (t0 t1:V):execK G ir_note_within.rv ir_note_within.body [] [] (params 0 [t0,t1]) = f_note_within G t0 t1:=by kernel_rfl
theorem tb_note_within:T zaW = some ir_note_within:=by kernel_rfl
theorem zxn {t0 t1:V}:OkT zaW [t0,t1] (f_note_within (sem T) t0 t1):=okT (by kernel_rfl) (by kernel_rfl) (by kernel_rfl)
end Go.Ax
/- FnS7 -/
namespace Go.Ax
open Go.Proofs
def ir_desk_Desk_no:Fn':=irOf zbx
def f_desk_Desk_no (G:Sem') (t0 t1 t2 t3:V):M Res :=
 uL (Ax.build [(uc 0),(uc 0),(uc 0),(uc 0),(uc 0),(uc 0),V.nils] [(0,1,(uc 18)),(4,1,t2),(5,1,t3)]) fun t12 =>
 (G zaV [t0,t1,t12]).bind fun t13 =>
 M.pure (.ret [])
theorem eq_desk_Desk_no (G:Sem') (t0 t1 t2 t3:V):execK G ir_desk_Desk_no.rv ir_desk_Desk_no.body [] [] (params 0 [t0,t1,t2,t3]) = f_desk_Desk_no G t0 t1 t2 t3:=by kernel_rfl
theorem tb_desk_Desk_no:T zbx = some ir_desk_Desk_no:=by kernel_rfl
theorem zvM {t0 t1 t2 t3:V}:OkT zbx [t0,t1,t2,t3] (f_desk_Desk_no (sem T) t0 t1 t2 t3):=okT (by kernel_rfl) (by kernel_rfl) (by kernel_rfl)
def ir_desk_Desk_say:Fn':=irOf zaV
def f_desk_Desk_say (G:Sem') (t0 t1 t2:V):M Res :=
 uO zag t2 fun t5 =>
 uS 7 t5 fun t9 =>
 (G zcq [t9]).bind fun t10 =>
 uE 0 t10 fun t11 =>
 uE 1 t10 fun t12 =>
 uB .eql t12 (uc 0) fun t14 =>
 M.join (M.ite t14
 ((G za1 [t0,t1,(uc 2),t11]).bind fun t18 =>
 M.pure (.nrm []))
 (M.pure (.nrm []))) fun _ =>
 M.pure (.ret [])
theorem eq_desk_Desk_say (G:Sem') (t0 t1 t2:V):execK G ir_desk_Desk_say.rv ir_desk_Desk_say.body [] [] (params 0 [t0,t1,t2]) = f_desk_Desk_say G t0 t1 t2:=by kernel_rfl
theorem tb_desk_Desk_say:T zaV = some ir_desk_Desk_say:=by kernel_rfl
theorem zuJ {t0 t1 t2:V}:OkT zaV [t0,t1,t2] (f_desk_Desk_say (sem T) t0 t1 t2):=okT (by kernel_rfl) (by kernel_rfl) (by kernel_rfl)
def ir_note_Bytes:Fn':=irOf zcq
def f_note_Bytes_0 (G:Sem') (t30 t29 t2 t3:V) (L:List V):M Res :=
 uB .lss (ug L 1) t30 fun t32 =>
 M.ite t32
 (M.blk 1 (
 uIM none 1 t29 (ug L 1) fun t34 =>
 uB .shr t34 (uq 8) fun t37 =>
 uL (Ax.cint .u8 t37) fun t38 =>
 uL (Ax.cint .u8 t34) fun t40 =>
 (mslit zaj 2 [(ub 0)] [(0,1,t38),(1,1,t40)]).bind fun t41 =>
 (mappend zaj 1 1 (ug L 0) t41).bind fun t42 =>
 M.pure (.nrm [t42])) fun L0 =>
 uB .add (ug L 1) (uc 1) fun t43 =>
 M.pure (.nrm [(ug L0 0),t43]))
 (M.pure (.ex 0 [(ug L 0)]))
def f_note_Bytes (G:Sem') (t0:V):M Res :=
 uO zag t0 fun t1 =>
 uS 7 t1 fun t7 =>
 (G zce [t7]).bind fun t8 =>
 uL (Ax.un .not t8) fun t9 =>
 M.ite t9
 (M.pure (.ret [V.nils,(uc 1)]))
 (uFM 0 t1 fun t11 =>
 uL (Ax.cint .u8 t11) fun t12 =>
 uFM 1 t1 fun t14 =>
 uL (Ax.cint .u8 t14) fun t15 =>
 uFM 2 t1 fun t17 =>
 uL (Ax.cint .u8 t17) fun t18 =>
 (mslit zaj 3 [(ub 0)] [(0,1,t12),(1,1,t15),(2,1,t18)]).bind fun t19 =>
 uFM 3 t1 fun t21 =>
 uFM 4 t1 fun t23 =>
 uFM 5 t1 fun t25 =>
 uFM 6 t1 fun t27 =>
 uL (vlen t27) fun t28 =>
 (mslit zeX 4 [(uc 0)] [(0,1,t21),(1,1,t23),(2,1,t25),(3,1,t28)]).bind fun t29 =>
 uL (vlen t29) fun t30 =>
 M.blk 0 (
 M.iter (f_note_Bytes_0 G t30 t29 V.nils (uc 0)) [t19,(uc 0)]) fun L1 =>
 uFM 6 t1 fun t46 =>
 (mappend zaj 1 1 (ug L1 0) t46).bind fun t47 =>
 M.pure (.ret [t47,(uc 0)]))
theorem eq_note_Bytes (G:Sem') (t0:V):execK G ir_note_Bytes.rv ir_note_Bytes.body [] [] (params 0 [t0]) = f_note_Bytes G t0:=by kernel_rfl
theorem tb_note_Bytes:T zcq = some ir_note_Bytes:=by kernel_rfl
theorem zy5 {t0:V}:OkT zcq [t0] (f_note_Bytes (sem T) t0):=okT (by kernel_rfl) (by kernel_rfl) (by kernel_rfl)
end Go.Ax
/- FnS8 -/
namespace Go.Ax
open Go.Proofs
def ir_desk_Desk_taken:Fn':=irOf zba
def f_desk_Desk_taken_0 (G:Sem') (t10 t0 t1 t6:V) (L:List V):M Res :=
 uB .lss (ug L 1) t10 fun t12 =>
 M.ite t12
 (M.blk 1 (
 uNF 1470 t0 fun t17 =>
 uIM (some 64) 1 t17 t1 fun t19 =>
 (G zaB [t19]).bind fun t20 =>
 uE 0 t20 fun t21 =>
 uE 1 t20 fun t22 =>
 uO zbD (V.agg [(uc 0),(uc 0),V.nils]) fun t8 =>
 uT 3 t8 t21 fun _ =>
 uL (Ax.un .not t22) fun t24 =>
 M.ite t24
 (M.pure (.ex 0 [(ug L 0)]))
 (uS 3 t8 fun t26 =>
 (mslit zbD 1 [(uc 0),(uc 0),V.nils] [(0,3,t26)]).bind fun t27 =>
 (mappend zbD 3 40 (ug L 0) t27).bind fun t28 =>
 M.pure (.nrm [t28]))) fun L0 =>
 uB .add (ug L 1) (uc 1) fun t29 =>
 M.pure (.nrm [(ug L0 0),t29]))
 (M.pure (.ex 0 [(ug L 0)]))
def f_desk_Desk_taken (G:Sem') (t0 t1 t2:V):M Res :=
 M.blk 0 (
 M.iter (f_desk_Desk_taken_0 G t2 t0 t1 V.nils) [V.nils,(uc 0)]) fun L1 =>
 M.pure (.ret [(ug L1 0)])
theorem eq_desk_Desk_taken (G:Sem') (t0 t1 t2:V):execK G ir_desk_Desk_taken.rv ir_desk_Desk_taken.body [] [] (params 0 [t0,t1,t2]) = f_desk_Desk_taken G t0 t1 t2:=by kernel_rfl
theorem tb_desk_Desk_taken:T zba = some ir_desk_Desk_taken:=by kernel_rfl
theorem zrn {t0 t1 t2:V}:OkT zba [t0,t1,t2] (f_desk_Desk_taken (sem T) t0 t1 t2):=okT (by kernel_rfl) (by kernel_rfl) (by kernel_rfl)
def ir_post_Post_desk_Out_Take:Fn':=irOf zaB
def f_post_Post_desk_Out_Take (G:Sem') (t0:V):M Res :=
 uO zbD (V.agg [(uc 0),(uc 0),V.nils]) fun t2 =>
 uO zbD (V.agg [(uc 0),(uc 0),V.nils]) fun t4 =>
 uNFM 1 t0 fun t9 =>
 uL (vlen t9) fun t10 =>
 uB .eql t10 (uc 0) fun t11 =>
 M.ite t11
 (uS 3 t4 fun t12 =>
 uT 3 t2 t12 fun _ =>
 uS 3 t2 fun r0 =>
 M.pure (.ret [r0,(V.bool false)]))
 (uNFM 1 t0 fun t16 =>
 uI none 3 t16 (uc 0) fun t17 =>
 uS 3 t17 fun t18 =>
 uO zbD (V.agg [(uc 0),(uc 0),V.nils]) fun t5 =>
 uT 3 t5 t18 fun _ =>
 uNFM 1 t0 fun t23 =>
 uL (zbr .sl 3 t23 (some (uc 1)) none none) fun t24 =>
 uNF 1 t0 fun t26 =>
 uT 1 t26 t24 fun _ =>
 uS 3 t5 fun t27 =>
 uT 3 t2 t27 fun _ =>
 uS 3 t2 fun r0 =>
 M.pure (.ret [r0,(V.bool true)]))
theorem eq_post_Post_desk_Out_Take (G:Sem') (t0:V):execK G ir_post_Post_desk_Out_Take.rv ir_post_Post_desk_Out_Take.body [] [] (params 0 [t0]) = f_post_Post_desk_Out_Take G t0:=by kernel_rfl
theorem tb_post_Post_desk_Out_Take:T zaB = some ir_post_Post_desk_Out_Take:=by kernel_rfl
theorem zkF {t0:V}:OkT zaB [t0] (f_post_Post_desk_Out_Take (sem T) t0):=okT (by kernel_rfl) (by kernel_rfl) (by kernel_rfl)
def ir_desk_Desk_Count:Fn':=irOf zbb
def f_desk_Desk_Count (G:Sem') (t0 t1:V):M Res :=
 uNFM 1534 t0 fun t8 =>
 (G zbw [t8,t1]).bind fun t10 =>
 M.pure (.ret [t10])
theorem eq_desk_Desk_Count (G:Sem') (t0 t1:V):execK G ir_desk_Desk_Count.rv ir_desk_Desk_Count.body [] [] (params 0 [t0,t1]) = f_desk_Desk_Count G t0 t1:=by kernel_rfl
theorem tb_desk_Desk_Count:T zbb = some ir_desk_Desk_Count:=by kernel_rfl
theorem zrp {t0 t1:V}:OkT zbb [t0,t1] (f_desk_Desk_Count (sem T) t0 t1):=okT (by kernel_rfl) (by kernel_rfl) (by kernel_rfl)
def ir_post_Counts_Of:Fn':=irOf zbw
def f_post_Counts_Of (G:Sem') (t0 t1:V):M Res :=
 uB .lss t1 (uc 0) fun t6 =>
 uG t6 false (M.pure t1) fun t8 =>
 uG t6 false (M.pure t0) fun t9 =>
 uH t6 false (Ax.nilck t9) fun t10 =>
 uH t6 false (Ax.faddr 0 t10) fun t11 =>
 uG t6 false (mload none t11) fun t12 =>
 uH t6 false (vlen t12) fun t13 =>
 uH t6 false (Ax.bin .geq t8 t13) fun t14 =>
 uL (Ax.pick t6 (V.bool true) t14) fun t15 =>
 M.ite t15
 (M.pure (.ret [(uc 0)]))
 (uNFM 0 t0 fun t19 =>
 uI none 1 t19 t1 fun t21 =>
 (G zaM [t21]).bind fun t22 =>
 M.pure (.ret [t22]))
theorem eq_post_Counts_Of (G:Sem') (t0 t1:V):execK G ir_post_Counts_Of.rv ir_post_Counts_Of.body [] [] (params 0 [t0,t1]) = f_post_Counts_Of G t0 t1:=by kernel_rfl
theorem tb_post_Counts_Of:T zbw = some ir_post_Counts_Of:=by kernel_rfl
theorem zsX {t0 t1:V}:OkT zbw [t0,t1] (f_post_Counts_Of (sem T) t0 t1):=okT (by kernel_rfl) (by kernel_rfl) (by kernel_rfl)
def ir_sync_atomic_Int64_Load:Fn':=irOf zaM
def f_sync_atomic_Int64_Load (G:Sem') (t0:V):M Res :=
 uNF 0 t0 fun t5 =>
 (matoload .i64 t5).bind fun t6 =>
 M.pure (.ret [t6])
theorem eq_sync_atomic_Int64_Load (G:Sem') (t0:V):execK G ir_sync_atomic_Int64_Load.rv ir_sync_atomic_Int64_Load.body [] [] (params 0 [t0]) = f_sync_atomic_Int64_Load G t0:=by kernel_rfl
theorem tb_sync_atomic_Int64_Load:T zaM = some ir_sync_atomic_Int64_Load:=by kernel_rfl
theorem zk5 {t0:V}:OkT zaM [t0] (f_sync_atomic_Int64_Load (sem T) t0):=okT (by kernel_rfl) (by kernel_rfl) (by kernel_rfl)
def ir_palanquinlaw27_says:Fn':=irOf zaK
def f_palanquinlaw27_says (G:Sem') (t0:V):M Res :=
 uO zad t0 fun t1 =>
 uS 7 t1 fun t6 =>
 (G zaQ [t6]).bind fun t7 =>
 uE 0 t7 fun t8 =>
 uE 1 t7 fun t9 =>
 M.pure (.ret [t8])
theorem eq_palanquinlaw27_says (G:Sem') (t0:V):execK G ir_palanquinlaw27_says.rv ir_palanquinlaw27_says.body [] [] (params 0 [t0]) = f_palanquinlaw27_says G t0:=by kernel_rfl
theorem tb_palanquinlaw27_says:T zaK = some ir_palanquinlaw27_says:=by kernel_rfl
theorem znw {t0:V}:OkT zaK [t0] (f_palanquinlaw27_says (sem T) t0):=okT (by kernel_rfl) (by kernel_rfl) (by kernel_rfl)
def ir_palanquinref16_Bytes:Fn':=irOf zaQ
def f_palanquinref16_Bytes (G:Sem') (t0:V):M Res :=
 uO zad t0 fun t1 =>
 uS 7 t1 fun t5 =>
 (G zak [t5]).bind fun t6 =>
 uL (Ax.un .not t6) fun t7 =>
 M.ite t7
 (M.pure (.ret [V.nils,(uc 1)]))
 (uFM 0 t1 fun t9 =>
 uL (Ax.cint .u8 t9) fun t10 =>
 uFM 1 t1 fun t12 =>
 uL (Ax.cint .u8 t12) fun t13 =>
 uFM 2 t1 fun t15 =>
 uL (Ax.cint .u8 t15) fun t16 =>
 (mslit zaj 3 [(ub 0)] [(0,1,t10),(1,1,t13),(2,1,t16)]).bind fun t17 =>
 uFM 3 t1 fun t20 =>
 uL (Ax.cint .u64 t20) fun t21 =>
 (G zaD [t17,t21,(uc 2)]).bind fun t22 =>
 uFM 4 t1 fun t25 =>
 uL (Ax.cint .u64 t25) fun t26 =>
 (G zaD [t22,t26,(uc 2)]).bind fun t27 =>
 uFM 5 t1 fun t30 =>
 uL (Ax.cint .u64 t30) fun t31 =>
 (G zaD [t27,t31,(uc 2)]).bind fun t32 =>
 uFM 6 t1 fun t35 =>
 uL (vlen t35) fun t36 =>
 uL (Ax.cint .u64 t36) fun t37 =>
 uF 6 t1 fun t39 =>
 uM t39 fun t40 =>
 M.getH.bind fun h0 =>
 (G zaD [t32,t37,(uc 2)]).bind fun t38 =>
 M.getH.bind fun h0' =>
 uU t39 h0 h0' fun _ =>
 (mappend zaj 1 1 t38 t40).bind fun t41 =>
 M.pure (.ret [t41,(uc 0)]))
theorem eq_palanquinref16_Bytes (G:Sem') (t0:V):execK G ir_palanquinref16_Bytes.rv ir_palanquinref16_Bytes.body [] [] (params 0 [t0]) = f_palanquinref16_Bytes G t0:=by kernel_rfl
theorem tb_palanquinref16_Bytes:T zaQ = some ir_palanquinref16_Bytes:=by kernel_rfl
theorem zmf {t0:V}:OkT zaQ [t0] (f_palanquinref16_Bytes (sem T) t0):=okT (by kernel_rfl) (by kernel_rfl) (by kernel_rfl)
def ir_palanquinref16_Good:Fn':=irOf zak
def f_palanquinref16_Good (G:Sem') (t0:V):M Res :=
 uO zad t0 fun t1 =>
 uFM 0 t1 fun t6 =>
 (G zas [t6]).bind fun t7 =>
 uB .eql t7 (V.str ⟨#[]⟩) fun t9 =>
 uH t9 false (Ax.faddr 1 t1) fun t11 =>
 uG t9 false (mload none t11) fun t12 =>
 uG t9 false (G zah [t12,(uc 0),(uc 3)]) fun t13 =>
 uH t9 false (Ax.un .not t13) fun t14 =>
 uL (Ax.pick t9 (V.bool true) t14) fun t15 =>
 uH t15 false (Ax.faddr 2 t1) fun t17 =>
 uG t15 false (mload none t17) fun t18 =>
 uG t15 false (G zah [t18,(uc 0),(uc 7)]) fun t19 =>
 uH t15 false (Ax.un .not t19) fun t20 =>
 uL (Ax.pick t15 (V.bool true) t20) fun t21 =>
 uH t21 false (Ax.faddr 3 t1) fun t23 =>
 uG t21 false (mload none t23) fun t24 =>
 uG t21 false (G zah [t24,(uc 0),(uc 65535)]) fun t25 =>
 uH t21 false (Ax.un .not t25) fun t26 =>
 uL (Ax.pick t21 (V.bool true) t26) fun t27 =>
 uH t27 false (Ax.faddr 4 t1) fun t29 =>
 uG t27 false (mload none t29) fun t30 =>
 uG t27 false (G zah [t30,(uc 0),(uc 65535)]) fun t31 =>
 uH t27 false (Ax.un .not t31) fun t32 =>
 uL (Ax.pick t27 (V.bool true) t32) fun t33 =>
 uH t33 false (Ax.faddr 5 t1) fun t35 =>
 uG t33 false (mload none t35) fun t36 =>
 uG t33 false (G zah [t36,(uc 0),(uc 65535)]) fun t37 =>
 uH t33 false (Ax.un .not t37) fun t38 =>
 uL (Ax.pick t33 (V.bool true) t38) fun t39 =>
 uH t39 false (Ax.faddr 6 t1) fun t41 =>
 uG t39 false (mload none t41) fun t42 =>
 uH t39 false (vlen t42) fun t43 =>
 uH t39 false (Ax.bin .gtr t43 (uc 200)) fun t44 =>
 uL (Ax.pick t39 (V.bool true) t44) fun t45 =>
 M.ite t45
 (M.pure (.ret [(V.bool false)]))
 ((G zae [t7,(ub 114)]).bind fun t47 =>
 uL (Ax.un .not t47) fun t48 =>
 uH t48 true (Ax.faddr 1 t1) fun t50 =>
 uG t48 true (mload none t50) fun t51 =>
 uH t48 true (Ax.bin .neq t51 (uc 0)) fun t52 =>
 uL (Ax.pick t48 t52 (V.bool false)) fun t53 =>
 uG t53 false (M.pure t7) fun t55 =>
 uG t53 false (G zae [t55,(ub 115)]) fun t56 =>
 uH t53 false (Ax.un .not t56) fun t57 =>
 uG t53 false (M.pure t57) fun t58 =>
 uH t58 true (Ax.faddr 2 t1) fun t59 =>
 uG t58 true (mload none t59) fun t60 =>
 uH t58 true (Ax.bin .neq t60 (uc 0)) fun t61 =>
 uH t53 false (Ax.pick t58 t61 (V.bool false)) fun t62 =>
 uL (Ax.pick t53 (V.bool true) t62) fun t63 =>
 uG t63 false (M.pure t7) fun t65 =>
 uG t63 false (G zae [t65,(ub 101)]) fun t66 =>
 uH t63 false (Ax.un .not t66) fun t67 =>
 uG t63 false (M.pure t67) fun t68 =>
 uH t68 true (Ax.faddr 3 t1) fun t69 =>
 uG t68 true (mload none t69) fun t70 =>
 uH t68 true (Ax.bin .neq t70 (uc 0)) fun t71 =>
 uH t63 false (Ax.pick t68 t71 (V.bool false)) fun t72 =>
 uL (Ax.pick t63 (V.bool true) t72) fun t73 =>
 uG t73 false (M.pure t7) fun t75 =>
 uG t73 false (G zae [t75,(ub 110)]) fun t76 =>
 uH t73 false (Ax.un .not t76) fun t77 =>
 uG t73 false (M.pure t77) fun t78 =>
 uH t78 true (Ax.faddr 4 t1) fun t79 =>
 uG t78 true (mload none t79) fun t80 =>
 uH t78 true (Ax.bin .neq t80 (uc 0)) fun t81 =>
 uH t73 false (Ax.pick t78 t81 (V.bool false)) fun t82 =>
 uL (Ax.pick t73 (V.bool true) t82) fun t83 =>
 uG t83 false (M.pure t7) fun t85 =>
 uG t83 false (G zae [t85,(ub 109)]) fun t86 =>
 uH t83 false (Ax.un .not t86) fun t87 =>
 uG t83 false (M.pure t87) fun t88 =>
 uH t88 true (Ax.faddr 5 t1) fun t89 =>
 uG t88 true (mload none t89) fun t90 =>
 uH t88 true (Ax.bin .neq t90 (uc 0)) fun t91 =>
 uH t83 false (Ax.pick t88 t91 (V.bool false)) fun t92 =>
 uL (Ax.pick t83 (V.bool true) t92) fun t93 =>
 uG t93 false (M.pure t7) fun t95 =>
 uG t93 false (G zae [t95,(ub 98)]) fun t96 =>
 uH t93 false (Ax.un .not t96) fun t97 =>
 uG t93 false (M.pure t97) fun t98 =>
 uH t98 true (Ax.faddr 6 t1) fun t99 =>
 uG t98 true (mload none t99) fun t100 =>
 uH t98 true (vlen t100) fun t101 =>
 uH t98 true (Ax.bin .gtr t101 (uc 0)) fun t102 =>
 uH t93 false (Ax.pick t98 t102 (V.bool false)) fun t103 =>
 uL (Ax.pick t93 (V.bool true) t103) fun t104 =>
 M.ite t104
 (M.pure (.ret [(V.bool false)]))
 (uFM 4 t1 fun t106 =>
 uB .lss t106 (uc 256) fun t107 =>
 M.join (M.ite t107
 (uFM 4 t1 fun t109 =>
 uFM 2 t1 fun t111 =>
 uL (Ax.cint .u64 t111) fun t112 =>
 uB .shr t109 t112 fun t113 =>
 uB .and t113 (uc 1) fun t114 =>
 uB .eql t114 (uc 1) fun t115 =>
 M.pure (.nrm [t115]))
 (M.pure (.nrm [(V.bool false)]))) fun L0 =>
 uFM 0 t1 fun t117 =>
 M.blk 0 (
 uB .eql t117 (uc 4) fun t119 =>
 M.ite t119
 (uFM 4 t1 fun t121 =>
 uB .lss t121 (uc 3) fun t122 =>
 uH t122 true (Ax.faddr 6 t1) fun t124 =>
 uG t122 true (mload none t124) fun t125 =>
 uH t122 true (vlen t125) fun t126 =>
 uH t122 true (Ax.bin .eql t126 (uc 4)) fun t127 =>
 uL (Ax.pick t122 t127 (V.bool false)) fun t128 =>
 M.pure (.ret [t128]))
 (uB .eql t117 (uc 5) fun t130 =>
 M.ite t130
 (uFM 4 t1 fun t132 =>
 uB .lss t132 (uc 4) fun t133 =>
 uH t133 true (Ax.faddr 5 t1) fun t135 =>
 uG t133 true (mload none t135) fun t136 =>
 uH t133 true (Ax.bin .lss t136 (uc 8)) fun t137 =>
 uL (Ax.pick t133 t137 (V.bool false)) fun t138 =>
 M.pure (.ret [t138]))
 (uB .eql t117 (uc 7) fun t140 =>
 M.join (M.ite t140
 (M.pure (.nrm [t140]))
 (uB .eql t117 (uc 21) fun t141 =>
 M.pure (.nrm [t141]))) fun L1 =>
 M.ite (ug L1 0)
 (uFM 4 t1 fun t143 =>
 uB .lss t143 (uc 32) fun t144 =>
 uH t144 true (Ax.faddr 6 t1) fun t146 =>
 uG t144 true (mload none t146) fun t147 =>
 uH t144 true (vlen t147) fun t148 =>
 uH t144 true (Ax.bin .gtr t148 (uc 0)) fun t149 =>
 uL (Ax.pick t144 t149 (V.bool false)) fun t150 =>
 M.pure (.ret [t150]))
 (uB .eql t117 (uc 17) fun t152 =>
 M.ite t152
 (uFM 4 t1 fun t154 =>
 uB .lss t154 (uc 256) fun t155 =>
 uG t155 true (M.pure (ug L0 0)) fun t157 =>
 uL (Ax.pick t155 t157 (V.bool false)) fun t158 =>
 uH t158 true (Ax.faddr 5 t1) fun t160 =>
 uG t158 true (mload none t160) fun t161 =>
 uH t158 true (Ax.faddr 3 t1) fun t162 =>
 uG t158 true (mload none t162) fun t163 =>
 uH t158 true (Ax.bin .geq t161 t163) fun t164 =>
 uL (Ax.pick t158 t164 (V.bool false)) fun t165 =>
 uG t165 true (mload (some 7) t1) fun t167 =>
 uG t165 true (G zbF [t167]) fun t168 =>
 uL (Ax.pick t165 t168 (V.bool false)) fun t169 =>
 M.pure (.ret [t169]))
 (uB .eql t117 (uc 18) fun t171 =>
 M.ite t171
 (uFM 4 t1 fun t173 =>
 (G zah [t173,(uc 1),(uc 13)]).bind fun t174 =>
 uH t174 true (Ax.faddr 5 t1) fun t176 =>
 uG t174 true (mload none t176) fun t177 =>
 uH t174 true (Ax.bin .leq t177 (uc 9)) fun t178 =>
 uL (Ax.pick t174 t178 (V.bool false)) fun t179 =>
 M.pure (.ret [t179]))
 (uB .eql t117 (uc 19) fun t181 =>
 M.ite t181
 (uFM 4 t1 fun t183 =>
 uB .lss t183 (uc 256) fun t184 =>
 uG t184 true (M.pure (ug L0 0)) fun t186 =>
 uL (Ax.pick t184 t186 (V.bool false)) fun t187 =>
 uH t187 true (Ax.faddr 5 t1) fun t189 =>
 uG t187 true (mload none t189) fun t190 =>
 uH t187 true (Ax.bin .leq t190 (uc 63)) fun t191 =>
 uL (Ax.pick t187 t191 (V.bool false)) fun t192 =>
 M.pure (.ret [t192]))
 (uB .eql t117 (uc 20) fun t194 =>
 M.ite t194
 (uFM 4 t1 fun t196 =>
 uB .lss t196 (uc 256) fun t197 =>
 uG t197 true (M.pure (ug L0 0)) fun t199 =>
 uH t197 true (Ax.un .not t199) fun t200 =>
 uL (Ax.pick t197 t200 (V.bool false)) fun t201 =>
 M.pure (.ret [t201]))
 (uB .eql t117 (uc 24) fun t203 =>
 M.ite t203
 (uFM 6 t1 fun t205 =>
 uL (vlen t205) fun t206 =>
 uB .eql t206 (uc 4) fun t207 =>
 M.pure (.ret [t207]))
 (M.pure (.nrm [])))))))))) fun _ =>
 M.pure (.ret [(V.bool true)])))
theorem eq_palanquinref16_Good (G:Sem') (t0:V):execK G ir_palanquinref16_Good.rv ir_palanquinref16_Good.body [] [] (params 0 [t0]) = f_palanquinref16_Good G t0:=by kernel_rfl
theorem tb_palanquinref16_Good:T zak = some ir_palanquinref16_Good:=by kernel_rfl
theorem zfi {t0:V}:OkT zak [t0] (f_palanquinref16_Good (sem T) t0):=okT (by kernel_rfl) (by kernel_rfl) (by kernel_rfl)
def ir_palanquinref16_fields:Fn':=irOf zas
def f_palanquinref16_fields (G:Sem') (t0:V):M Res :=
 M.blk 0 (
 uB .eql t0 (uc 1) fun t5 =>
 M.ite t5
 (M.pure (.ret [(V.str ⟨#[114]⟩)]))
 (uB .eql t0 (uc 2) fun t7 =>
 M.join (M.ite t7
 (M.pure (.nrm [t7]))
 (uB .eql t0 (uc 9) fun t8 =>
 M.join (M.ite t8
 (M.pure (.nrm [t8]))
 (uB .eql t0 (uc 23) fun t9 =>
 M.pure (.nrm [t9]))) fun L0 =>
 M.pure (.nrm [(ug L0 0)]))) fun L1 =>
 M.ite (ug L1 0)
 (M.pure (.ret [(V.str ⟨#[45]⟩)]))
 (uB .eql t0 (uc 3) fun t11 =>
 M.join (M.ite t11
 (M.pure (.nrm [t11]))
 (uB .eql t0 (uc 6) fun t12 =>
 M.pure (.nrm [t12]))) fun L2 =>
 M.ite (ug L2 0)
 (M.pure (.ret [(V.str ⟨#[115]⟩)]))
 (uB .eql t0 (uc 4) fun t14 =>
 M.ite t14
 (M.pure (.ret [(V.str ⟨#[110,109,98]⟩)]))
 (uB .eql t0 (uc 5) fun t16 =>
 M.ite t16
 (M.pure (.ret [(V.str ⟨#[115,110,109]⟩)]))
 (uB .eql t0 (uc 7) fun t18 =>
 M.join (M.ite t18
 (M.pure (.nrm [t18]))
 (uB .eql t0 (uc 21) fun t19 =>
 M.pure (.nrm [t19]))) fun L3 =>
 M.ite (ug L3 0)
 (M.pure (.ret [(V.str ⟨#[115,101,110,98]⟩)]))
 (uB .eql t0 (uc 8) fun t21 =>
 M.join (M.ite t21
 (M.pure (.nrm [t21]))
 (uB .eql t0 (uc 22) fun t22 =>
 M.pure (.nrm [t22]))) fun L4 =>
 M.ite (ug L4 0)
 (M.pure (.ret [(V.str ⟨#[101]⟩)]))
 (uB .eql t0 (uc 17) fun t24 =>
 M.ite t24
 (M.pure (.ret [(V.str ⟨#[114,115,101,110,109,98]⟩)]))
 (uB .eql t0 (uc 18) fun t26 =>
 M.ite t26
 (M.pure (.ret [(V.str ⟨#[110,109]⟩)]))
 (uB .eql t0 (uc 19) fun t28 =>
 M.ite t28
 (M.pure (.ret [(V.str ⟨#[115,101,110,109]⟩)]))
 (uB .eql t0 (uc 20) fun t30 =>
 M.ite t30
 (M.pure (.ret [(V.str ⟨#[115,101,110]⟩)]))
 (uB .eql t0 (uc 24) fun t32 =>
 M.ite t32
 (M.pure (.ret [(V.str ⟨#[115,98]⟩)]))
 (M.pure (.nrm [])))))))))))))) fun _ =>
 M.pure (.ret [(V.str ⟨#[]⟩)])
theorem eq_palanquinref16_fields (G:Sem') (t0:V):execK G ir_palanquinref16_fields.rv ir_palanquinref16_fields.body [] [] (params 0 [t0]) = f_palanquinref16_fields G t0:=by kernel_rfl
theorem tb_palanquinref16_fields:T zas = some ir_palanquinref16_fields:=by kernel_rfl
theorem zem {t0:V}:OkT zas [t0] (f_palanquinref16_fields (sem T) t0):=okT (by kernel_rfl) (by kernel_rfl) (by kernel_rfl)
def ir_palanquinref16_in:Fn':=irOf zah
def f_palanquinref16_in (G:Sem') (t0 t1 t2:V):M Res :=
 uB .geq t0 t1 fun t9 =>
 uG t9 true (M.pure t0) fun t11 =>
 uG t9 true (M.pure t2) fun t12 =>
 uH t9 true (Ax.bin .leq t11 t12) fun t13 =>
 uL (Ax.pick t9 t13 (V.bool false)) fun t14 =>
 M.pure (.ret [t14])
theorem eq_palanquinref16_in (G:Sem') (t0 t1 t2:V):execK G ir_palanquinref16_in.rv ir_palanquinref16_in.body [] [] (params 0 [t0,t1,t2]) = f_palanquinref16_in G t0 t1 t2:=by kernel_rfl
theorem tb_palanquinref16_in:T zah = some ir_palanquinref16_in:=by kernel_rfl
theorem zpq {t0 t1 t2:V}:OkT zah [t0,t1,t2] (f_palanquinref16_in (sem T) t0 t1 t2):=okT (by kernel_rfl) (by kernel_rfl) (by kernel_rfl)
def ir_palanquinref16_has:Fn':=irOf zae
def f_palanquinref16_has_0 (G:Sem') (t0 t1:V) (L:List V):M Res :=
 uL (Ax.slen t0) fun t8 =>
 uB .lss (ug L 0) t8 fun t9 =>
 M.ite t9
 (M.blk 1 (
 uL (Ax.sindex t0 (ug L 0)) fun t14 =>
 uB .eql t14 t1 fun t16 =>
 M.ite t16
 (M.pure (.ret [(V.bool true)]))
 (M.pure (.nrm []))) fun _ =>
 uB .add (ug L 0) (uc 1) fun t11 =>
 M.pure (.nrm [t11]))
 (M.pure (.ex 0 []))
def f_palanquinref16_has (G:Sem') (t0 t1:V):M Res :=
 M.blk 0 (
 M.iter (f_palanquinref16_has_0 G t0 t1) [(uc 0)]) fun _ =>
 M.pure (.ret [(V.bool false)])
theorem eq_palanquinref16_has (G:Sem') (t0 t1:V):execK G ir_palanquinref16_has.rv ir_palanquinref16_has.body [] [] (params 0 [t0,t1]) = f_palanquinref16_has G t0 t1:=by kernel_rfl
theorem tb_palanquinref16_has:T zae = some ir_palanquinref16_has:=by kernel_rfl
theorem znO {t0 t1:V}:OkT zae [t0,t1] (f_palanquinref16_has (sem T) t0 t1):=okT (by kernel_rfl) (by kernel_rfl) (by kernel_rfl)
def ir_palanquinref1_U:Fn':=irOf zaD
def f_palanquinref1_U_0 (G:Sem') (t1 t6:V) (L:List V):M Res :=
 uB .geq (ug L 1) (uc 0) fun t15 =>
 M.ite t15
 (M.blk 1 (
 uB .mul (uc 8) (ug L 1) fun t21 =>
 uL (Ax.cint .u64 t21) fun t22 =>
 uB .shr t1 t22 fun t23 =>
 uL (Ax.cint .u8 t23) fun t24 =>
 (mslit zaj 1 [(ub 0)] [(0,1,t24)]).bind fun t25 =>
 (mappend zaj 1 1 (ug L 0) t25).bind fun t26 =>
 M.pure (.nrm [t26])) fun L0 =>
 uB .sub (ug L 1) (uc 1) fun t17 =>
 M.pure (.nrm [(ug L0 0),t17]))
 (M.pure (.ex 0 [(ug L 0)]))
def f_palanquinref1_U (G:Sem') (t0 t1 t2:V):M Res :=
 (mslit zaj 0 [(ub 0)] []).bind fun t9 =>
 (mappend zaj 1 1 t9 t0).bind fun t11 =>
 uB .sub t2 (uc 1) fun t13 =>
 M.blk 0 (
 M.iter (f_palanquinref1_U_0 G t1 V.nils) [t11,t13]) fun L1 =>
 M.pure (.ret [(ug L1 0)])
theorem eq_palanquinref1_U (G:Sem') (t0 t1 t2:V):execK G ir_palanquinref1_U.rv ir_palanquinref1_U.body [] [] (params 0 [t0,t1,t2]) = f_palanquinref1_U G t0 t1 t2:=by kernel_rfl
theorem tb_palanquinref1_U:T zaD = some ir_palanquinref1_U:=by kernel_rfl
theorem zrl {t0 t1 t2:V}:OkT zaD [t0,t1,t2] (f_palanquinref1_U (sem T) t0 t1 t2):=okT (by kernel_rfl) (by kernel_rfl) (by kernel_rfl)
def ir_desk_Desk_Waits:Fn':=irOf zaU
def f_desk_Desk_Waits (G:Sem') (t0 t1:V):M Res :=
 (G zcg [t1]).bind fun t6 =>
 uL (Ax.un .not t6) fun t7 =>
 M.ite t7
 (M.pure (.ret [(uc 0)]))
 (uNF 1470 t0 fun t11 =>
 uIM (some 64) 1 t11 t1 fun t13 =>
 (G zaN [t13]).bind fun t14 =>
 M.pure (.ret [t14]))
theorem eq_desk_Desk_Waits (G:Sem') (t0 t1:V):execK G ir_desk_Desk_Waits.rv ir_desk_Desk_Waits.body [] [] (params 0 [t0,t1]) = f_desk_Desk_Waits G t0 t1:=by kernel_rfl
theorem tb_desk_Desk_Waits:T zaU = some ir_desk_Desk_Waits:=by kernel_rfl
theorem zro {t0 t1:V}:OkT zaU [t0,t1] (f_desk_Desk_Waits (sem T) t0 t1):=okT (by kernel_rfl) (by kernel_rfl) (by kernel_rfl)
def ir_post_Post_desk_Out_Len:Fn':=irOf zaN
def f_post_Post_desk_Out_Len (G:Sem') (t0:V):M Res :=
 uNFM 1 t0 fun t6 =>
 uL (vlen t6) fun t7 =>
 M.pure (.ret [t7])
theorem eq_post_Post_desk_Out_Len (G:Sem') (t0:V):execK G ir_post_Post_desk_Out_Len.rv ir_post_Post_desk_Out_Len.body [] [] (params 0 [t0]) = f_post_Post_desk_Out_Len G t0:=by kernel_rfl
theorem tb_post_Post_desk_Out_Len:T zaN = some ir_post_Post_desk_Out_Len:=by kernel_rfl
theorem zk6 {t0:V}:OkT zaN [t0] (f_post_Post_desk_Out_Len (sem T) t0):=okT (by kernel_rfl) (by kernel_rfl) (by kernel_rfl)
end Go.Ax
/- FnS9 -/
namespace Go.Ax
open Go.Proofs
def ir_palanquinref16_Parse:Fn':=irOf zaP
def f_palanquinref16_Parse (G:Sem') (t0:V):M Res :=
 uO zad (V.agg [(uc 0),(uc 0),(uc 0),(uc 0),(uc 0),(uc 0),V.nils]) fun t2 =>
 uL (vlen t0) fun t7 =>
 uB .lss t7 (uc 11) fun t8 =>
 M.ite t8
 (uL (Ax.build [(uc 0),(uc 0),(uc 0),(uc 0),(uc 0),(uc 0),V.nils] []) fun t9 =>
 uT 7 t2 t9 fun _ =>
 uS 7 t2 fun r0 =>
 M.pure (.ret [r0,(uc 3)]))
 (uI none 1 t0 (uc 0) fun t11 =>
 uM t11 fun t12 =>
 uL (Ax.cint .i64 t12) fun t13 =>
 uI none 1 t0 (uc 1) fun t15 =>
 uM t15 fun t16 =>
 uL (Ax.cint .i64 t16) fun t17 =>
 uI none 1 t0 (uc 2) fun t19 =>
 uM t19 fun t20 =>
 uL (Ax.cint .i64 t20) fun t21 =>
 M.getH.bind fun h0 =>
 (G zai [t0,(uc 3)]).bind fun t23 =>
 M.getH.bind fun h0' =>
 uU t19 h0 h0' fun _ =>
 uU t15 h0 h0' fun _ =>
 uU t11 h0 h0' fun _ =>
 M.getH.bind fun h1 =>
 (G zai [t0,(uc 5)]).bind fun t25 =>
 M.getH.bind fun h1' =>
 uU t19 h1 h1' fun _ =>
 uU t15 h1 h1' fun _ =>
 uU t11 h1 h1' fun _ =>
 M.getH.bind fun h2 =>
 (G zai [t0,(uc 7)]).bind fun t27 =>
 M.getH.bind fun h2' =>
 uU t19 h2 h2' fun _ =>
 uU t15 h2 h2' fun _ =>
 uU t11 h2 h2' fun _ =>
 uL (Ax.build [(uc 0),(uc 0),(uc 0),(uc 0),(uc 0),(uc 0),V.nils] [(0,1,t13),(1,1,t17),(2,1,t21),(3,1,t23),(4,1,t25),(5,1,t27),(6,1,V.nils)]) fun t28 =>
 uO zad (V.agg [(uc 0),(uc 0),(uc 0),(uc 0),(uc 0),(uc 0),V.nils]) fun t4 =>
 uT 7 t4 t28 fun _ =>
 (G zai [t0,(uc 9)]).bind fun t30 =>
 M.blk 0 (
 uB .gtr t30 (uc 200) fun t33 =>
 M.ite t33
 (uL (Ax.build [(uc 0),(uc 0),(uc 0),(uc 0),(uc 0),(uc 0),V.nils] []) fun t34 =>
 uT 7 t2 t34 fun _ =>
 uS 7 t2 fun r0 =>
 M.pure (.ret [r0,(uc 4)]))
 (uL (vlen t0) fun t38 =>
 uB .sub t38 (uc 11) fun t39 =>
 uB .gtr t30 t39 fun t40 =>
 M.ite t40
 (uL (Ax.build [(uc 0),(uc 0),(uc 0),(uc 0),(uc 0),(uc 0),V.nils] []) fun t41 =>
 uT 7 t2 t41 fun _ =>
 uS 7 t2 fun r0 =>
 M.pure (.ret [r0,(uc 3)]))
 (uL (vlen t0) fun t45 =>
 uB .sub t45 (uc 11) fun t46 =>
 uB .lss t30 t46 fun t47 =>
 M.ite t47
 (uL (Ax.build [(uc 0),(uc 0),(uc 0),(uc 0),(uc 0),(uc 0),V.nils] []) fun t48 =>
 uT 7 t2 t48 fun _ =>
 uS 7 t2 fun r0 =>
 M.pure (.ret [r0,(uc 2)]))
 (M.pure (.nrm []))))) fun _ =>
 (mslit zaj 0 [(ub 0)] []).bind fun t49 =>
 uL (zbr .sl 1 t0 (some (uc 11)) none none) fun t51 =>
 (mappend zaj 1 1 t49 t51).bind fun t52 =>
 uF 6 t4 fun t53 =>
 uT 1 t53 t52 fun _ =>
 uS 7 t4 fun t54 =>
 (G zak [t54]).bind fun t55 =>
 uL (Ax.un .not t55) fun t56 =>
 M.ite t56
 (uL (Ax.build [(uc 0),(uc 0),(uc 0),(uc 0),(uc 0),(uc 0),V.nils] []) fun t57 =>
 uT 7 t2 t57 fun _ =>
 uS 7 t2 fun r0 =>
 M.pure (.ret [r0,(uc 2)]))
 (uS 7 t4 fun t58 =>
 uT 7 t2 t58 fun _ =>
 uS 7 t2 fun r0 =>
 M.pure (.ret [r0,(uc 0)])))
theorem eq_palanquinref16_Parse (G:Sem') (t0:V):execK G ir_palanquinref16_Parse.rv ir_palanquinref16_Parse.body [] [] (params 0 [t0]) = f_palanquinref16_Parse G t0:=by kernel_rfl
theorem tb_palanquinref16_Parse:T zaP = some ir_palanquinref16_Parse:=by kernel_rfl
theorem zme {t0:V}:OkT zaP [t0] (f_palanquinref16_Parse (sem T) t0):=okT (by kernel_rfl) (by kernel_rfl) (by kernel_rfl)
def ir_palanquinref16_two:Fn':=irOf zai
def f_palanquinref16_two (G:Sem') (t0 t1:V):M Res :=
 uIM none 1 t0 t1 fun t8 =>
 uL (Ax.cint .i64 t8) fun t9 =>
 uB .shl t9 (uq 8) fun t10 =>
 uB .add t1 (uc 1) fun t13 =>
 uIM none 1 t0 t13 fun t15 =>
 uL (Ax.cint .i64 t15) fun t16 =>
 uB .or t10 t16 fun t17 =>
 M.pure (.ret [t17])
theorem eq_palanquinref16_two (G:Sem') (t0 t1:V):execK G ir_palanquinref16_two.rv ir_palanquinref16_two.body [] [] (params 0 [t0,t1]) = f_palanquinref16_two G t0 t1:=by kernel_rfl
theorem tb_palanquinref16_two:T zai = some ir_palanquinref16_two:=by kernel_rfl
theorem znN {t0 t1:V}:OkT zai [t0,t1] (f_palanquinref16_two (sem T) t0 t1):=okT (by kernel_rfl) (by kernel_rfl) (by kernel_rfl)
def zcy (G:Sem') (t6 t5 t4:V) (L:List V):M Res :=
 uB .lss (ug L 0) t6 fun t25 =>
 M.ite t25
 (M.blk 1 (
 uB .rem (ug L 0) (uc 2) fun t30 =>
 uB .add (uc 2) t30 fun t31 =>
 uB .rem (ug L 0) (uc 2) fun t33 =>
 uL (Ax.build [(uc 0),(uc 0),(uc 0),(uc 0),(uc 0),(uc 0),V.nils] [(0,1,t31),(2,1,t33)]) fun t34 =>
 (G zaK [t34]).bind fun t35 =>
 uL (Ax.build [(uc 0),(uc 0),(uc 0),V.nils] [(0,1,(uc 2)),(1,1,(uc 9)),(3,1,t35)]) fun t36 =>
 (G zaY [t5,t36]).bind fun t37 =>
 M.pure (.nrm [])) fun _ =>
 uB .add (ug L 0) (uc 1) fun t27 =>
 M.pure (.nrm [t27]))
 (M.pure (.ex 0 []))
def zcx (G:Sem') (t9:V) (L:List V):M Res :=
 uL (vlen t9) fun t84 =>
 uB .lss (ug L 0) t84 fun t85 =>
 M.ite t85
 (M.blk 3 (
 uI none 3 t9 (ug L 0) fun t91 =>
 uFM 2 t91 fun t93 =>
 (G zaP [t93]).bind fun t94 =>
 uE 0 t94 fun t95 =>
 uE 1 t94 fun t96 =>
 uO zad (V.agg [(uc 0),(uc 0),(uc 0),(uc 0),(uc 0),(uc 0),V.nils]) fun t12 =>
 uT 7 t12 t95 fun _ =>
 uFM 0 t12 fun t98 =>
 uB .neq t98 (uc 18) fun t99 =>
 uH t99 false (Ax.faddr 4 t12) fun t101 =>
 uG t99 false (mload none t101) fun t102 =>
 uH t99 false (Ax.bin .neq t102 (uc 6)) fun t103 =>
 uL (Ax.pick t99 (V.bool true) t103) fun t104 =>
 uH t104 false (Ax.faddr 5 t12) fun t106 =>
 uG t104 false (mload none t106) fun t107 =>
 uG t104 false (M.pure (ug L 0)) fun t108 =>
 uH t104 false (Ax.bin .rem t108 (uc 2)) fun t109 =>
 uH t104 false (Ax.bin .add (uc 2) t109) fun t110 =>
 uH t104 false (Ax.bin .neq t107 t110) fun t111 =>
 uL (Ax.pick t104 (V.bool true) t111) fun t112 =>
 uG t112 false (M.pure t9) fun t114 =>
 uG t112 false (M.pure (ug L 0)) fun t115 =>
 uH t112 false (Ax.iaddr none 3 t114 t115) fun t116 =>
 uH t112 false (Ax.faddr 0 t116) fun t117 =>
 uG t112 false (mload none t117) fun t118 =>
 uH t112 false (Ax.bin .neq t118 (uc 9)) fun t119 =>
 uL (Ax.pick t112 (V.bool true) t119) fun t120 =>
 M.ite t120
 (M.pure (.ret [(V.bool false)]))
 (M.pure (.nrm []))) fun _ =>
 uB .add (ug L 0) (uc 1) fun t87 =>
 M.pure (.nrm [t87]))
 (M.pure (.ex 2 []))
def zgv (G:Sem') (t0 t1:V):M Res :=
 (G zeS []).bind fun t14 =>
 (G zbn []).bind fun t15 =>
 uL (Ax.un .not t15) fun t16 =>
 uG t16 false (M.pure t14) fun t18 =>
 uH t16 false (eqr .ptr false t18 V.nilp) fun t19 =>
 uL (Ax.pick t16 (V.bool true) t19) fun t20 =>
 M.ite t20
 (M.pure (.ret [(V.bool false)]))
 (uL (Ax.cint .i64 t0) fun t22 =>
 M.blk 0 (
 M.iter (zcy G t22 t14 (V.bool false)) [(uc 0)]) fun _ =>
 (G zaU [t14,(uc 9)]).bind fun t39 =>
 uL (Ax.minmax false t22 [(uc 32)]) fun t41 =>
 uB .neq t39 t41 fun t42 =>
 uG t42 false (M.pure t14) fun t44 =>
 uG t42 false (G zbb [t44,(uc 10)]) fun t45 =>
 uG t42 false (M.pure t22) fun t46 =>
 uH t42 false (Ax.bin .sub t46 (uc 32)) fun t47 =>
 uH t42 false (Ax.minmax true (uc 0) [t47]) fun t48 =>
 uH t42 false (Ax.bin .neq t45 t48) fun t49 =>
 uL (Ax.pick t42 (V.bool true) t49) fun t50 =>
 M.ite t50
 (M.pure (.ret [(V.bool false)]))
 (uB .rem t1 (ub 33) fun t52 =>
 uL (Ax.cint .i64 t52) fun t53 =>
 uL (Ax.build [(uc 0),(uc 0),(uc 0),V.nils] [(0,1,(uc 5)),(1,1,(uc 9)),(2,1,t53)]) fun t57 =>
 (G zaY [t14,t57]).bind fun t58 =>
 uE 0 t58 fun t59 =>
 uE 1 t58 fun t60 =>
 uB .neq t60 (uc 0) fun t62 =>
 uG t62 false (M.pure t59) fun t64 =>
 uH t62 false (vlen t64) fun t65 =>
 uG t62 false (M.pure t53) fun t66 =>
 uG t62 false (M.pure t22) fun t67 =>
 uH t62 false (Ax.minmax false t67 [(uc 32)]) fun t68 =>
 uH t62 false (Ax.minmax false t66 [t68]) fun t69 =>
 uH t62 false (Ax.bin .neq t65 t69) fun t70 =>
 uL (Ax.pick t62 (V.bool true) t70) fun t71 =>
 uG t71 false (M.pure t14) fun t73 =>
 uG t71 false (G zaU [t73,(uc 9)]) fun t74 =>
 uG t71 false (M.pure t22) fun t75 =>
 uH t71 false (Ax.minmax false t75 [(uc 32)]) fun t76 =>
 uG t71 false (M.pure t59) fun t77 =>
 uH t71 false (vlen t77) fun t78 =>
 uH t71 false (Ax.bin .sub t76 t78) fun t79 =>
 uH t71 false (Ax.bin .neq t74 t79) fun t80 =>
 uL (Ax.pick t71 (V.bool true) t80) fun t81 =>
 M.ite t81
 (M.pure (.ret [(V.bool false)]))
 (M.blk 2 (
 M.iter (zcx G t59) [(uc 0)]) fun _ =>
 M.pure (.ret [(V.bool true)]))))
theorem zkG {t0 t1:V}:OkT zcI [t0,t1] (zgv (sem T) t0 t1):=okT (by kernel_rfl) (by kernel_rfl) (by kernel_rfl)
end Go.Ax
/- Dk1 -/
namespace Go.Ax.SU
open Go.Ax
structure AtS (S:List Nat) (H H':Heap):Prop where
 next:H.next ≤ H'.next
 same:∀ i,i < H.next → i ∉ S → H'.get i = H.get i
theorem AtS.refl (S:List Nat) (H:Heap):AtS S H H:=⟨Nat.le_refl _,fun _ _ _=>rfl⟩
theorem AtS.trans {S:List Nat} {H H1 H2:Heap} (h:AtS S H H1) (g:AtS S H1 H2):AtS S H H2:=⟨Nat.le_trans h.next g.next,fun i hi hk=>by rw [g.same i (Nat.lt_of_lt_of_le hi h.next) hk,h.same i hi hk]⟩
theorem _root_.Go.Ax.Grow.atS {H H':Heap} (h:Grow H H') (S:List Nat):AtS S H H':=⟨h.next,fun i hi _=>h.same i hi⟩
theorem AtS.set {S:List Nat} (H:Heap) {k:Nat} (h:k ∈ S) (b:Option Blk):AtS S H (H.set k b):=⟨Nat.le_refl _,fun i _ hk=>zcL _ _ (fun e=>hk (e ▸ h))⟩
theorem AtS.mono {S S':List Nat} {H H':Heap} (h:AtS S H H') (g:∀ i ∈ S,i ∈ S'):AtS S' H H':=⟨h.next,fun i hi hk=>h.same i hi fun e=>hk (g i e)⟩
theorem AtS.grow {H H':Heap} (h:AtS [] H H'):Grow H H':=⟨h.next,fun i hi=>h.same i hi (by simp)⟩
theorem AtS.new {S:List Nat} {H0 H H':Heap} (g:Grow H0 H) (h:AtS S H H') (hS:∀ i ∈ S,H0.next ≤ i):Grow H0 H' :=
 ⟨Nat.le_trans g.next h.next,fun i hi=>by rw [h.same i (Nat.lt_of_lt_of_le hi g.next) (fun e=>by have:=hS i e; omega),g.same i hi]⟩
theorem _root_.Go.Ax.Lc.atS {e lo n:Nat} {S:List Nat} {H H':Heap} {v:V} {cells:List V} (h:Lc e lo H v cells n) (s:AtS S H H') (hk:∀ i,v.pid = some i → i ∉ S):Lc e lo H' v cells n :=
 ⟨by rw [zvG fun i hi=>s.same i (h.own i hi).2 (hk i hi)]; exact h.rc,fun i hi=>⟨(h.own i hi).1,Nat.lt_of_lt_of_le (h.own i hi).2 s.next⟩,h.cap⟩
theorem copy8 {β:Type} {lo:Nat} {H:Heap} {y:V} {l:List Nat} {f:V → M β} {Q:β → Heap → Prop} (hy:By lo H y l) (hl:l.length ≤ 140737488355328)
  (k:∀ x' H',Ab H.next H' x' l → Grow H H' → Ok (f x') H' Q):Ok ((mappend zaj 1 1 (.sl H.next 0 0 (.fix 0)) y).bind f) (H.new ⟨zaj,[],none⟩) Q :=
 okb_copy hy.ac (fun i hi=>(hy.own i hi).2) (by rw [List.length_map]; omega) (by omega) (by omega) fun x' H' h g=>k x' H' (.app h) g
theorem U_ok {lo:Nat} {H:Heap} {bv:V} {b:List Nat} (n k:Nat) (hb:By lo H bv b) (hn:n < 18446744073709551616) (hk:k ≤ 16) (hbl:b.length ≤ 1099511627000):Ok (sem T zaD [bv,.int .u64 (n:Nat),.int .i64 (k:Nat)]) H fun r H'=>Ab H.next H' r (b ++ num n k) ∧ Grow H H':=by
 refine zrl ?_;unfold f_palanquinref1_U uB uc ub ug;simp (disch:=omega) only [↓RD,RZ];rw [zhW];refine copy8 hb (by omega) fun x0 H0' hx0 s0=>?_;simp (disch:=omega) only [↓RD,RZ];refine zmg (fun m L H'=>∃ w,L = [w,.int .i64 ((k:Int) - 1 - (m:Nat))] ∧ Ab H.next H' w (b ++ (bn k n).take m) ∧ Bel H.next H H') k ?_ ?_ ?_
 ·exact ⟨x0,by simp,by simpa using hx0,s0.bel (Nat.le_refl _)⟩
 ·rintro m L H1 hm ⟨w,rfl,ha,hb'⟩;have e1:(k:Int) - 1 - (m:Nat) = ((k - 1 - m:Nat):Int):=by omega
  have e2:(8:Int) * ((k - 1 - m:Nat):Int) = ((8 * (k - 1 - m):Nat):Int):=by omega
  have e2':IntKind.u64.wrap ((8 * (k - 1 - m):Nat):Int) = ((8 * (k - 1 - m):Nat):Int):=by rw [wrap_u64]; omega
  have e3:shr n (8 * (k - 1 - m)) = n / 256 ^ (k - 1 - m):=by rw [zFf,Nat.shiftRight_eq_div_pow,Nat.pow_mul]
  have hlo1:=hb'.next;have hbg:=bn_get k n m hm;rw [e1];generalize hw:k - 1 - m = w' at *;have e8:IntKind.u8.wrap ((n / 256 ^ w':Nat):Int) = ((n / 256 ^ w' % 256:Nat):Int):=by rw [wrap_u8]; rfl
  unfold f_palanquinref1_U_0 uL uB uc ub ug;simp (disch:=omega) only [↓RD,RZ,e2,e2',e3,e8];refine zFB (m:=[n / 256 ^ w' % 256]) (Apf.keep ha ((Grow.new _ _).keep _)) (by rw [zaZ]; omega) (zo6 rfl) (by rw [List.length_append,List.length_take,zDq]; simp; omega) fun w2 H2 h2 hb2=>?_;simp (disch:=omega) only [↓RD,RZ];refine ⟨w2,by rw [show ((w':Nat):Int) - 1 = (k:Int) - 1 - ((m + 1:Nat):Int) by omega],?_,hb'.trans (((Grow.new _ _).bel (by omega)).trans hb2)⟩;rw [zE3 (by rw [zDq]; exact hm),hbg,← List.append_assoc];exact h2
 ·rintro L H1 ⟨w,rfl,ha,hb'⟩;have e1:(k:Int) - 1 - (k:Nat) = -1:=by omega
  rw [e1];unfold f_palanquinref1_U_0 uL uB uc ub ug;simp (disch:=omega) only [↓RD,RZ];rw [List.take_of_length_le (by rw [zDq]; exact Nat.le_refl _)] at ha;exact ⟨ha,hb'.grow⟩
theorem Ab.nil {lo:Nat} {H:Heap}:Ab lo H .nils []:=.app .nil
theorem eq_nils {lo:Nat} {H:Heap} {v:V} {l:List Nat} (hv:By lo H v l):(v = .nils ∧ l = []) ∨ Ax.eqr .sl false v .nils = some (.bool false):=by
 rcases hv.cases with ⟨rfl,h,_⟩ | ⟨id,off,cap,b,rfl,_⟩ | ⟨cs,rfl,_⟩
 ·exact .inl ⟨rfl,by simpa using h⟩
 ·exact .inr rfl
 ·exact .inr rfl
theorem zDo {lo:Nat} {H:Heap} {v:V} {l:List Nat} (hv:By lo H v l) (hl:l.length ≤ 140737488355328):Ok (sem T zaI [v]) H fun r H'=>Ab H.next H' r l ∧ Grow H H':=by
 refine zxo ?_;unfold f_bytes_Clone uL ub;rcases eq_nils hv with ⟨rfl,rfl⟩ | e
 ·have e:Ax.eqr .sl false .nils .nils = some (.bool true):=rfl;simp (disch:=omega) only [↓RD,RZ,e];exact ⟨Ab.nil,Grow.refl _⟩
 ·simp (disch:=omega) only [↓RD,RZ,e];rw [zhW];refine copy8 hv hl fun x0 H0' hx0 s0=>?_;simp (disch:=omega) only [↓RD,RZ];exact ⟨hx0,s0⟩
/-! Notes. -/
theorem znB {H:Heap} (x m:Int):Ok (sem T zaW [.int .i64 x,.int .i64 m]) H fun r H'=>r = .bool (decide (0 ≤ x) && decide (x ≤ m)) ∧ H' = H:=by
 refine zxn ?_;unfold f_note_within uL uB uG uH uc;by_cases h:0 ≤ x
 ·have d:decide ((0:Int) ≤ x) = true:=decide_eq_true h;simp (disch:=omega) only [↓RD,RZ,d,Bool.true_and]
 ·have d:decide ((0:Int) ≤ x) = false:=decide_eq_false h;simp (disch:=omega) only [↓RD,RZ,d,Bool.false_and]
def bnd (k:Int):List Int × Bool :=
 if k = 1 then ([3,0,0,0,0,0,0],true) else if k = 2 ∨ k = 9 ∨ k = 23 then ([0,0,0,0,0,0,0],true) else if k = 3 ∨ k = 6 then ([0,7,0,0,0,0,0],true) else
 if k = 4 then ([0,0,0,2,65535,4,4],true) else if k = 5 then ([0,7,0,3,7,0,0],true) else if k = 7 ∨ k = 21 then ([0,7,65535,31,0,1,200],true) else
 if k = 8 ∨ k = 22 then ([0,0,65535,0,0,0,0],true) else if k = 17 then ([3,7,65535,255,65535,8,8],true) else if k = 18 then ([0,0,0,13,9,0,0],true) else
 if k = 19 then ([0,7,65535,255,63,0,0],true) else if k = 20 then ([0,7,65535,255,0,0,0],true) else if k = 24 then ([0,7,0,0,0,4,4],true) else ([0,0,0,0,0,0,0],false)
theorem of_ok {H:Heap} (k:Int):Ok (sem T zet [.int .i64 k]) H fun r H'=>r = .tup [.agg ((bnd k).1.map (.int .i64)),.bool (bnd k).2] ∧ Grow H H':=by
 refine zEd ?_;unfold f_note_of uL uS uT uB uO uc ug;have fin:∀ cs:List V,Grow H ((H.new ⟨ze4,[.int .i64 0,.int .i64 0,.int .i64 0,.int .i64 0,.int .i64 0,.int .i64 0,.int .i64 0],none⟩).set H.next (some ⟨ze4,cs,none⟩)):=fun cs=>(Grow.new _ _).set (Nat.le_refl _) _;by_cases h1:k = 1
 ·subst h1; simp (maxSteps:=1000000) (disch:=first | omega | (simp only [RY] <;> omega) | decide) only [↓RD,RZ,eq_self,Int.reduceToNat,Int.reduceAdd,Int.reduceSub,Int.reduceMul,Nat.reduceAdd,Nat.reduceSub,Nat.reduceMul,Nat.reduceDiv,Nat.reduceMod,Nat.reduceBEq,Nat.reduceLeDiff]; exact ⟨rfl,fin _⟩
 by_cases h2:k = 2
 ·subst h2; simp (maxSteps:=1000000) (disch:=first | omega | (simp only [RY] <;> omega) | decide) only [↓RD,RZ,eq_self,Int.reduceToNat,Int.reduceAdd,Int.reduceSub,Int.reduceMul,Nat.reduceAdd,Nat.reduceSub,Nat.reduceMul,Nat.reduceDiv,Nat.reduceMod,Nat.reduceBEq,Nat.reduceLeDiff]; exact ⟨rfl,fin _⟩
 by_cases h3:k = 9
 ·subst h3; simp (maxSteps:=1000000) (disch:=first | omega | (simp only [RY] <;> omega) | decide) only [↓RD,RZ,eq_self,Int.reduceToNat,Int.reduceAdd,Int.reduceSub,Int.reduceMul,Nat.reduceAdd,Nat.reduceSub,Nat.reduceMul,Nat.reduceDiv,Nat.reduceMod,Nat.reduceBEq,Nat.reduceLeDiff]; exact ⟨rfl,fin _⟩
 by_cases h4:k = 23
 ·subst h4; simp (maxSteps:=1000000) (disch:=first | omega | (simp only [RY] <;> omega) | decide) only [↓RD,RZ,eq_self,Int.reduceToNat,Int.reduceAdd,Int.reduceSub,Int.reduceMul,Nat.reduceAdd,Nat.reduceSub,Nat.reduceMul,Nat.reduceDiv,Nat.reduceMod,Nat.reduceBEq,Nat.reduceLeDiff]; exact ⟨rfl,fin _⟩
 by_cases h5:k = 3
 ·subst h5; simp (maxSteps:=1000000) (disch:=first | omega | (simp only [RY] <;> omega) | decide) only [↓RD,RZ,eq_self,Int.reduceToNat,Int.reduceAdd,Int.reduceSub,Int.reduceMul,Nat.reduceAdd,Nat.reduceSub,Nat.reduceMul,Nat.reduceDiv,Nat.reduceMod,Nat.reduceBEq,Nat.reduceLeDiff]; exact ⟨rfl,fin _⟩
 by_cases h6:k = 6
 ·subst h6; simp (maxSteps:=1000000) (disch:=first | omega | (simp only [RY] <;> omega) | decide) only [↓RD,RZ,eq_self,Int.reduceToNat,Int.reduceAdd,Int.reduceSub,Int.reduceMul,Nat.reduceAdd,Nat.reduceSub,Nat.reduceMul,Nat.reduceDiv,Nat.reduceMod,Nat.reduceBEq,Nat.reduceLeDiff]; exact ⟨rfl,fin _⟩
 by_cases h7:k = 4
 ·subst h7; simp (maxSteps:=1000000) (disch:=first | omega | (simp only [RY] <;> omega) | decide) only [↓RD,RZ,eq_self,Int.reduceToNat,Int.reduceAdd,Int.reduceSub,Int.reduceMul,Nat.reduceAdd,Nat.reduceSub,Nat.reduceMul,Nat.reduceDiv,Nat.reduceMod,Nat.reduceBEq,Nat.reduceLeDiff]; exact ⟨rfl,fin _⟩
 by_cases h8:k = 5
 ·subst h8; simp (maxSteps:=1000000) (disch:=first | omega | (simp only [RY] <;> omega) | decide) only [↓RD,RZ,eq_self,Int.reduceToNat,Int.reduceAdd,Int.reduceSub,Int.reduceMul,Nat.reduceAdd,Nat.reduceSub,Nat.reduceMul,Nat.reduceDiv,Nat.reduceMod,Nat.reduceBEq,Nat.reduceLeDiff]; exact ⟨rfl,fin _⟩
 by_cases h9:k = 7
 ·subst h9; simp (maxSteps:=1000000) (disch:=first | omega | (simp only [RY] <;> omega) | decide) only [↓RD,RZ,eq_self,Int.reduceToNat,Int.reduceAdd,Int.reduceSub,Int.reduceMul,Nat.reduceAdd,Nat.reduceSub,Nat.reduceMul,Nat.reduceDiv,Nat.reduceMod,Nat.reduceBEq,Nat.reduceLeDiff]; exact ⟨rfl,fin _⟩
 by_cases h10:k = 21
 ·subst h10; simp (maxSteps:=1000000) (disch:=first | omega | (simp only [RY] <;> omega) | decide) only [↓RD,RZ,eq_self,Int.reduceToNat,Int.reduceAdd,Int.reduceSub,Int.reduceMul,Nat.reduceAdd,Nat.reduceSub,Nat.reduceMul,Nat.reduceDiv,Nat.reduceMod,Nat.reduceBEq,Nat.reduceLeDiff]; exact ⟨rfl,fin _⟩
 by_cases h11:k = 8
 ·subst h11; simp (maxSteps:=1000000) (disch:=first | omega | (simp only [RY] <;> omega) | decide) only [↓RD,RZ,eq_self,Int.reduceToNat,Int.reduceAdd,Int.reduceSub,Int.reduceMul,Nat.reduceAdd,Nat.reduceSub,Nat.reduceMul,Nat.reduceDiv,Nat.reduceMod,Nat.reduceBEq,Nat.reduceLeDiff]; exact ⟨rfl,fin _⟩
 by_cases h12:k = 22
 ·subst h12; simp (maxSteps:=1000000) (disch:=first | omega | (simp only [RY] <;> omega) | decide) only [↓RD,RZ,eq_self,Int.reduceToNat,Int.reduceAdd,Int.reduceSub,Int.reduceMul,Nat.reduceAdd,Nat.reduceSub,Nat.reduceMul,Nat.reduceDiv,Nat.reduceMod,Nat.reduceBEq,Nat.reduceLeDiff]; exact ⟨rfl,fin _⟩
 by_cases h13:k = 17
 ·subst h13; simp (maxSteps:=1000000) (disch:=first | omega | (simp only [RY] <;> omega) | decide) only [↓RD,RZ,eq_self,Int.reduceToNat,Int.reduceAdd,Int.reduceSub,Int.reduceMul,Nat.reduceAdd,Nat.reduceSub,Nat.reduceMul,Nat.reduceDiv,Nat.reduceMod,Nat.reduceBEq,Nat.reduceLeDiff]; exact ⟨rfl,fin _⟩
 by_cases h14:k = 18
 ·subst h14; simp (maxSteps:=1000000) (disch:=first | omega | (simp only [RY] <;> omega) | decide) only [↓RD,RZ,eq_self,Int.reduceToNat,Int.reduceAdd,Int.reduceSub,Int.reduceMul,Nat.reduceAdd,Nat.reduceSub,Nat.reduceMul,Nat.reduceDiv,Nat.reduceMod,Nat.reduceBEq,Nat.reduceLeDiff]; exact ⟨rfl,fin _⟩
 by_cases h15:k = 19
 ·subst h15; simp (maxSteps:=1000000) (disch:=first | omega | (simp only [RY] <;> omega) | decide) only [↓RD,RZ,eq_self,Int.reduceToNat,Int.reduceAdd,Int.reduceSub,Int.reduceMul,Nat.reduceAdd,Nat.reduceSub,Nat.reduceMul,Nat.reduceDiv,Nat.reduceMod,Nat.reduceBEq,Nat.reduceLeDiff]; exact ⟨rfl,fin _⟩
 by_cases h16:k = 20
 ·subst h16; simp (maxSteps:=1000000) (disch:=first | omega | (simp only [RY] <;> omega) | decide) only [↓RD,RZ,eq_self,Int.reduceToNat,Int.reduceAdd,Int.reduceSub,Int.reduceMul,Nat.reduceAdd,Nat.reduceSub,Nat.reduceMul,Nat.reduceDiv,Nat.reduceMod,Nat.reduceBEq,Nat.reduceLeDiff]; exact ⟨rfl,fin _⟩
 by_cases h17:k = 24
 ·subst h17; simp (maxSteps:=1000000) (disch:=first | omega | (simp only [RY] <;> omega) | decide) only [↓RD,RZ,eq_self,Int.reduceToNat,Int.reduceAdd,Int.reduceSub,Int.reduceMul,Nat.reduceAdd,Nat.reduceSub,Nat.reduceMul,Nat.reduceDiv,Nat.reduceMod,Nat.reduceBEq,Nat.reduceLeDiff]; exact ⟨rfl,fin _⟩
 have eb:bnd k = ([0,0,0,0,0,0,0],false):=by simp [bnd, *]
 have f:∀ c:Int,k ≠ c → (k == c) = false:=fun c h=>by simpa using h
 have f1:=f _ h1;have f2:=f _ h2;have f3:=f _ h3;have f4:=f _ h4;have f5:=f _ h5;have f6:=f _ h6;have f7:=f _ h7;have f8:=f _ h8;have f9:=f _ h9;have f10:=f _ h10;have f11:=f _ h11;have f12:=f _ h12;have f13:=f _ h13;have f14:=f _ h14;have f15:=f _ h15;have f16:=f _ h16;have f17:=f _ h17;simp (maxSteps:=1000000) (disch:=first | omega | (simp only [RY] <;> omega) | decide) only [↓RD,RZ,eq_self,Int.reduceToNat,Int.reduceAdd,Int.reduceSub,Int.reduceMul,Nat.reduceAdd,Nat.reduceSub,Nat.reduceMul,Nat.reduceDiv,Nat.reduceMod,Nat.reduceBEq,Nat.reduceLeDiff,f1,f2,f3,f4,f5,f6,f7,f8,f9,f10,f11,f12,f13,f14,f15,f16,f17];rw [eb];exact ⟨rfl,fin _⟩
end Go.Ax.SU
/- Dk2 -/
namespace Go.Ax.SU
open Go.Ax
theorem zbI (cs:List V):(V.agg cs).cells = cs:=rfl
theorem okb_ldr {n:Option Nat} {H:Heap} {p c:V} {f:V → M Res} {Q:Res → Heap → Prop} (h:LdR n H p c) (k:Ok (f c) H Q):Ok ((mload n p).bind f) H Q:=by
 have:=(h f Q).2 k
 rwa [zhW] at this
theorem zlI {β:Type} {H:Heap} {ty:TypeId} {n:Nat} {zs cs:List V} {f:V → V → M β} {Q:β → Heap → Prop} (hz:zs.length = n) (hl:cs.length = n) (k:∀ q H',q = H.next → H'.get q = some ⟨ty,cs,none⟩ → Grow H H' → H'.next = H.next + 1 → Ok (f (.ptr q 0) .undef) H' Q) :
  Ok ((mbox ty (.agg zs)).bind fun t=>(mstore n t (.agg cs)).bind fun u=>f t u) H Q:=by
 refine zbO (zgV rfl ?_);rw [zbI];have g:=zat H ⟨ty,zs,none⟩;refine zbO (ok_store g (by rw [zbI]; exact hl) (by show 0 + n ≤ zs.length; omega) rfl ?_);refine k _ _ rfl ?_ ((Grow.new _ _).set (Nat.le_refl _) _) rfl;rw [zc1,zbI];congr 2;unfold splice;rw [List.take_zero,List.nil_append,List.drop_of_length_le (by show zs.length ≤ 0 + cs.length; omega),List.append_nil]
structure Nt where
 k:Int
 r:Int
 s:Int
 e:Int
 n:Int
 m:Int
 b:List Nat
def nC (x:Nt) (bv:V):List V:=[.int .i64 x.k,.int .i64 x.r,.int .i64 x.s,.int .i64 x.e,.int .i64 x.n,.int .i64 x.m,bv]
theorem bnd_form (k:Int):∃ a0 a1 a2 a3 a4 a5 a6 o,bnd k = ([a0,a1,a2,a3,a4,a5,a6],o):=by
 have hl:(bnd k).1.length = 7:=by
  have key:∀ (c:Prop) [Decidable c] (a b:List Int × Bool),a.1.length = 7 → b.1.length = 7 → (if c then a else b).1.length = 7:=by
   intro c _ a b ha hb;split <;> assumption
  unfold bnd
  repeat (first | exact rfl | refine key _ _ _ rfl ?_)
 rcases h:bnd k with ⟨l,o⟩
 rw [h] at hl;rcases l with _ | ⟨a0,_ | ⟨a1,_ | ⟨a2,_ | ⟨a3,_ | ⟨a4,_ | ⟨a5,_ | ⟨a6,_ | ⟨a7,l⟩⟩⟩⟩⟩⟩⟩⟩ <;> simp at hl
 exact ⟨a0,a1,a2,a3,a4,a5,a6,o,rfl⟩
def zrv (x:Nt):Bool :=
 (bnd x.k).2 && ((decide (0 ≤ x.r) && decide (x.r ≤ (bnd x.k).1.getD 0 0)) && ((decide (0 ≤ x.s) && decide (x.s ≤ (bnd x.k).1.getD 1 0)) && ((decide (0 ≤ x.e) && decide (x.e ≤ (bnd x.k).1.getD 2 0)) &&
  ((decide (0 ≤ x.n) && decide (x.n ≤ (bnd x.k).1.getD 3 0)) && ((decide (0 ≤ x.m) && decide (x.m ≤ (bnd x.k).1.getD 4 0)) && (!decide ((x.b.length:Int) < (bnd x.k).1.getD 5 0) && (!decide ((bnd x.k).1.getD 6 0 < (x.b.length:Int)) && (if x.k = 18 then decide (1 ≤ x.n) else true))))))))
def Pl3 (x:Nt):Prop:=x.k ≠ 17 ∧ x.k ≠ 19 ∧ x.k ≠ 20
theorem zAY {lo:Nat} {H:Heap} {x:Nt} {bv:V} (hb:By lo H bv x.b) (hk:Pl3 x):Ok (sem T zce [.agg (nC x bv)]) H fun r H'=>r = .bool (zrv x) ∧ Grow H H':=by
 refine zAP ?_;unfold f_note_Good uL uS uT uFM uE uB uG uH uO uc;obtain ⟨k,r,s,e,n,m,b⟩:=x;obtain ⟨hk1,hk2,hk3⟩:=hk;dsimp only at hk1 hk2 hk3 hb;have vc:=hb.cells1;have vo:=hb.okc;refine zbO (zgV (by simp [nC,V.okc,vo]) ?_);rw [zbI];have s0:=Grow.new H ⟨zag,nC ⟨k,r,s,e,n,m,b⟩ bv,none⟩;have g0:(H.new ⟨zag,nC ⟨k,r,s,e,n,m,b⟩ bv,none⟩).get H.next = some ⟨zag,nC ⟨k,r,s,e,n,m,b⟩ bv,none⟩:=zat _ _;have n0:(H.new ⟨zag,nC ⟨k,r,s,e,n,m,b⟩ bv,none⟩).next = H.next + 1:=zaZ _ _;generalize hq:H.next = q at *;generalize H.new _ = H0 at *;unfold nC at g0;dsimp only at g0;simp (disch:=omega) only [↓RD,RZ,g0];refine za8 (of_ok k) ?_;rintro _ H1 ⟨rfl,s1⟩;obtain ⟨a0,a1,a2,a3,a4,a5,a6,o,eb⟩:=bnd_form k;have eg:zrv ⟨k,r,s,e,n,m,b⟩ = (o && ((decide (0 ≤ r) && decide (r ≤ a0)) && ((decide (0 ≤ s) && decide (s ≤ a1)) && ((decide (0 ≤ e) && decide (e ≤ a2)) && ((decide (0 ≤ n) && decide (n ≤ a3)) && ((decide (0 ≤ m) && decide (m ≤ a4)) && (!decide ((b.length:Int) < a5) && (!decide (a6 < (b.length:Int)) && (if k = 18 then decide (1 ≤ n) else true))))))))):=by
  unfold zrv;dsimp only;rw [eb];rfl
 have eb1:(bnd k).1.map (V.int .i64) = [.int .i64 a0,.int .i64 a1,.int .i64 a2,.int .i64 a3,.int .i64 a4,.int .i64 a5,.int .i64 a6]:=by rw [eb]; rfl
 have eb2:(bnd k).2 = o:=by rw [eb]
 rw [eb1,eb2,eg];refine zft rfl ?_;refine zft rfl ?_;refine zlI rfl rfl fun q3 H3 e3 g3 s3 n3=>?_;have s13:=s1.trans s3;have n1:=s1.next;have g03:=(s13.same q (by omega)).trans g0;have bl:=(hb.ext (s0.trans s13)).vlen;have w1:=@zbY _ _ _ _ (@znB H3 r a0);have w2:=@zbY _ _ _ _ (@znB H3 s a1);have w3:=@zbY _ _ _ _ (@znB H3 e a2);have w4:=@zbY _ _ _ _ (@znB H3 n a3);have w5:=@zbY _ _ _ _ (@znB H3 m a4);have gr:=s0.trans s13;generalize (decide (0 ≤ r) && decide (r ≤ a0)) = b1 at *;generalize (decide (0 ≤ s) && decide (s ≤ a1)) = b2 at *;generalize (decide (0 ≤ e) && decide (e ≤ a2)) = b3 at *;generalize (decide (0 ≤ n) && decide (n ≤ a3)) = b4 at *;generalize (decide (0 ≤ m) && decide (m ≤ a4)) = b5 at *;cases o with
 | false=>simp (disch:=omega) only [↓RD,RZ,g3,g03]; exact ⟨rfl,gr⟩
 | true =>
 cases b1 with
 | false=>simp (disch:=omega) only [↓RD,RZ,g3,g03,w1]; exact ⟨rfl,gr⟩
 | true =>
 cases b2 with
 | false=>simp (disch:=omega) only [↓RD,RZ,g3,g03,w1,w2]; exact ⟨rfl,gr⟩
 | true =>
 cases b3 with
 | false=>simp (disch:=omega) only [↓RD,RZ,g3,g03,w1,w2,w3]; exact ⟨rfl,gr⟩
 | true =>
 cases b4 with
 | false=>simp (disch:=omega) only [↓RD,RZ,g3,g03,w1,w2,w3,w4]; exact ⟨rfl,gr⟩
 | true =>
 cases b5 with
 | false=>simp (disch:=omega) only [↓RD,RZ,g3,g03,w1,w2,w3,w4,w5]; exact ⟨rfl,gr⟩
 | true =>
 cases h6:decide ((b.length:Int) < a5) with
 | true=>simp (disch:=omega) only [↓RD,RZ,g3,g03,w1,w2,w3,w4,w5,bl,h6]; exact ⟨rfl,gr⟩
 | false =>
 cases h7:decide (a6 < (b.length:Int)) with
 | true=>simp (disch:=omega) only [↓RD,RZ,g3,g03,w1,w2,w3,w4,w5,bl,h6,h7]; exact ⟨rfl,gr⟩
 | false =>
 have f1:(k == 17) = false:=by simpa using hk1
 have f2:(k == 19) = false:=by simpa using hk2
 have f3:(k == 20) = false:=by simpa using hk3
 by_cases h18:k = 18
 ·have f4:(k == 18) = true:=by simpa using h18
  rw [if_pos h18];simp (disch:=omega) only [↓RD,RZ,g3,g03,w1,w2,w3,w4,w5,bl,h6,h7,f1,f4];exact ⟨by simp,gr⟩
 ·have f4:(k == 18) = false:=by simpa using h18
  rw [if_neg h18];simp (disch:=omega) only [↓RD,RZ,g3,g03,w1,w2,w3,w4,w5,bl,h6,h7,f1,f2,f3,f4];exact ⟨rfl,gr⟩
end Go.Ax.SU
/- Dk3 -/
namespace Go.Ax.SU
open Go.Ax
theorem Apf.low {ty e lo lo' n:Nat} {H:Heap} {v:V} {cells:List V} (h:Apf ty e lo H v cells n) (hl:lo' ≤ lo):Apf ty e lo' H v cells n:=by
 cases h with
 | app h =>
  cases h with
  | opn h ho=>exact .app (.opn h fun i hi=>⟨Nat.le_trans hl (ho i hi).1,(ho i hi).2⟩)
  | lit h h0 h1=>exact .app (.lit h (Nat.le_trans hl h0) h1)
 | full h hl' h0 h1=>exact .full h hl' (Nat.le_trans hl h0) h1
theorem ite_P {α:Type} {c:Prop} [Decidable c] {a b:α} {P:α → Prop} (h1:c → P a) (h2:¬ c → P b):P (if c then a else b):=by
 by_cases h:c
 ·rw [if_pos h]; exact h1 h
 ·rw [if_neg h]; exact h2 h
theorem bnd_le (k:Int):(bnd k).1.getD 0 0 ≤ 3 ∧ (bnd k).1.getD 1 0 ≤ 7 ∧ (bnd k).1.getD 2 0 ≤ 65535 ∧ (bnd k).1.getD 3 0 ≤ 65535 ∧ (bnd k).1.getD 4 0 ≤ 65535 ∧ (bnd k).1.getD 6 0 ≤ 200 ∧ ((bnd k).2 = true → 1 ≤ k ∧ k ≤ 24):=by
 unfold bnd
 repeat (refine ite_P (P:=fun p:List Int × Bool=>p.1.getD 0 0 ≤ 3 ∧ p.1.getD 1 0 ≤ 7 ∧ p.1.getD 2 0 ≤ 65535 ∧ p.1.getD 3 0 ≤ 65535 ∧ p.1.getD 4 0 ≤ 65535 ∧ p.1.getD 6 0 ≤ 200 ∧ (p.2 = true → 1 ≤ k ∧ k ≤ 24)) (fun h=>⟨by decide,by decide,by decide,by decide,by decide,by decide,fun _=>by omega⟩) (fun h=>?_))
 exact ⟨by decide,by decide,by decide,by decide,by decide,by decide,fun h=>by cases h⟩
theorem zFP {x:Nt} (h:zrv x = true):(1 ≤ x.k ∧ x.k ≤ 24) ∧ (0 ≤ x.r ∧ x.r ≤ 3) ∧ (0 ≤ x.s ∧ x.s ≤ 7) ∧ (0 ≤ x.e ∧ x.e ≤ 65535) ∧ (0 ≤ x.n ∧ x.n ≤ 65535) ∧ (0 ≤ x.m ∧ x.m ≤ 65535) ∧ x.b.length ≤ 200:=by
 obtain ⟨h0,h1,h2,h3,h4,h6,h7⟩:=bnd_le x.k;simp only [zrv,Bool.and_eq_true,decide_eq_true_eq,Bool.not_eq_true',decide_eq_false_iff_not] at h;obtain ⟨g0,g1,g2,g3,g4,g5,g6,g7,-⟩:=h;refine ⟨h7 g0,⟨g1.1,by omega⟩,⟨g2.1,by omega⟩,⟨g3.1,by omega⟩,⟨g4.1,by omega⟩,⟨g5.1,by omega⟩,by omega⟩
def by2 (y:Nat):List Nat:=[y / 256 % 256,y % 256]
def zpL (x:Nt):List Nat:=[x.k.toNat,x.r.toNat,x.s.toNat] ++ [x.e.toNat,x.n.toNat,x.m.toNat,x.b.length].flatMap by2 ++ x.b
theorem zET {lo:Nat} {H:Heap} {x:Nt} {bv:V} (hb:By lo H bv x.b) (hk:Pl3 x):Ok (sem T zcq [.agg (nC x bv)]) H fun r H'=>Grow H H' ∧ (zrv x = false ∧ r = .tup [.nils,.int .i64 1] ∨ zrv x = true ∧ ∃ v,r = .tup [v,.int .i64 0] ∧ Ab H.next H' v (zpL x)):=by
 refine zy5 ?_;unfold f_note_Bytes uL uS uFM uO uc ub ug;have hgood:=fun H (hb:By lo H bv x.b)=>zAY hb hk;have hle:=@zFP x;obtain ⟨k,r,s,e,n,m,b⟩:=x;dsimp only at hle hb;have vc:=hb.cells1;have vo:=hb.okc;refine zbO (zgV (by simp [nC,V.okc,vo]) ?_);rw [zbI];have s0:=Grow.new H ⟨zag,nC ⟨k,r,s,e,n,m,b⟩ bv,none⟩;have g0:(H.new ⟨zag,nC ⟨k,r,s,e,n,m,b⟩ bv,none⟩).get H.next = some ⟨zag,nC ⟨k,r,s,e,n,m,b⟩ bv,none⟩:=zat _ _;have n0:(H.new ⟨zag,nC ⟨k,r,s,e,n,m,b⟩ bv,none⟩).next = H.next + 1:=zaZ _ _;generalize hq:H.next = q at *;generalize H.new _ = H0 at *;have l0:ldc (some 7) (nC ⟨k,r,s,e,n,m,b⟩ bv) 0 = some (.agg (nC ⟨k,r,s,e,n,m,b⟩ bv)):=rfl;simp (maxSteps:=1000000) (disch:=first | omega | (simp only [RY] <;> omega) | decide) only [↓RD,RZ,eq_self,Int.reduceToNat,Int.reduceAdd,Int.reduceSub,Int.reduceMul,Nat.reduceAdd,Nat.reduceSub,Nat.reduceMul,Nat.reduceDiv,Nat.reduceMod,Nat.reduceBEq,Nat.reduceLeDiff,g0,l0];refine za8 (hgood H0 (hb.ext s0)) ?_;rintro _ H1 ⟨rfl,s1⟩;have n1:=s1.next;have s01:=s0.trans s1;have g1:=(s1.same q (by omega)).trans g0;cases hg:zrv ⟨k,r,s,e,n,m,b⟩ with
 | false=>simp (maxSteps:=1000000) (disch:=first | omega | (simp only [RY] <;> omega) | decide) only [↓RD,RZ,eq_self,Int.reduceToNat,Int.reduceAdd,Int.reduceSub,Int.reduceMul,Nat.reduceAdd,Nat.reduceSub,Nat.reduceMul,Nat.reduceDiv,Nat.reduceMod,Nat.reduceBEq,Nat.reduceLeDiff]; exact ⟨s01,.inl trivial⟩
 | true =>
 obtain ⟨h1,h2,h3,h4,h5,h6,h7⟩:=hle hg;obtain ⟨k,rfl⟩:∃ y:Nat,k = (y:Nat):=⟨k.toNat,by omega⟩;obtain ⟨r,rfl⟩:∃ y:Nat,r = (y:Nat):=⟨r.toNat,by omega⟩;obtain ⟨s,rfl⟩:∃ y:Nat,s = (y:Nat):=⟨s.toNat,by omega⟩;obtain ⟨e,rfl⟩:∃ y:Nat,e = (y:Nat):=⟨e.toNat,by omega⟩;obtain ⟨n,rfl⟩:∃ y:Nat,n = (y:Nat):=⟨n.toNat,by omega⟩;obtain ⟨m,rfl⟩:∃ y:Nat,m = (y:Nat):=⟨m.toNat,by omega⟩;unfold nC at g1;dsimp only at g1;have w8:∀ y:Nat,y < 256 → IntKind.u8.wrap ((y:Nat):Int) = ((y:Nat):Int):=fun y hy=>by rw [wrap_u8]; omega
 have wk:=w8 k (by omega);have wr:=w8 r (by omega);have ws:=w8 s (by omega);have bl:=(hb.ext s01).vlen;simp (maxSteps:=1000000) (disch:=first | omega | (simp only [RY] <;> omega) | decide) only [↓RD,RZ,eq_self,Int.reduceToNat,Int.reduceAdd,Int.reduceSub,Int.reduceMul,Nat.reduceAdd,Nat.reduceSub,Nat.reduceMul,Nat.reduceDiv,Nat.reduceMod,Nat.reduceBEq,Nat.reduceLeDiff,g1,wk,wr,ws,bl];have sA:=Grow.new H1 ⟨zaj,[.int .u8 (k:Nat),.int .u8 (r:Nat),.int .u8 (s:Nat)],none⟩;have gA:(H1.new ⟨zaj,[.int .u8 (k:Nat),.int .u8 (r:Nat),.int .u8 (s:Nat)],none⟩).get H1.next = _:=zat _ _;have nA:(H1.new ⟨zaj,[.int .u8 (k:Nat),.int .u8 (r:Nat),.int .u8 (s:Nat)],none⟩).next = H1.next + 1:=zaZ _ _;generalize H1.new _ = H2 at *;have sB:=Grow.new H2 ⟨zeX,[.int .i64 (e:Nat),.int .i64 (n:Nat),.int .i64 (m:Nat),.int .i64 (b.length:Nat)],none⟩;have gB:(H2.new ⟨zeX,[.int .i64 (e:Nat),.int .i64 (n:Nat),.int .i64 (m:Nat),.int .i64 (b.length:Nat)],none⟩).get H2.next = _:=zat _ _;have nB:(H2.new ⟨zeX,[.int .i64 (e:Nat),.int .i64 (n:Nat),.int .i64 (m:Nat),.int .i64 (b.length:Nat)],none⟩).next = H2.next + 1:=zaZ _ _;rw [nA] at gB;generalize H2.new _ = H3 at *;have gA3:=(sB.same H1.next (by omega)).trans gA;have s13:=sA.trans sB;have g3:=(s13.same q (by omega)).trans g1;generalize hqB:H1.next = p at *;obtain ⟨F,hF⟩:∃ F:Nat → List Nat,∀ i,F i = ([e,n,m,b.length].take i).flatMap by2:=⟨_,fun _=>rfl⟩;have hF0:F 0 = []:=hF 0;have hF4:F 4 = [e,n,m,b.length].flatMap by2:=hF 4;have hints:∀ i,i < 4 → ∃ y,y < 65536 ∧ ([.int .i64 (e:Nat),.int .i64 (n:Nat),.int .i64 (m:Nat),.int .i64 (b.length:Nat)]:List V)[i]? = some (.int .i64 (y:Nat)) ∧ F (i + 1) = F i ++ by2 y:=by
  intro i hi;rw [hF,hF];have:i = 0 ∨ i = 1 ∨ i = 2 ∨ i = 3:=by omega
  rcases this with rfl | rfl | rfl | rfl
  ·exact ⟨e,by omega,rfl,rfl⟩
  ·exact ⟨n,by omega,rfl,rfl⟩
  ·exact ⟨m,by omega,rfl,rfl⟩
  ·exact ⟨b.length,by omega,rfl,rfl⟩
 have hfl:∀ i,(F i).length ≤ 8:=by
  intro i;rw [hF];have h1:(([e,n,m,b.length].take i).flatMap by2).length = 2 * ([e,n,m,b.length].take i).length:=by
   induction ([e,n,m,b.length].take i) with
   | nil=>rfl
   | cons a l ih=>rw [List.flatMap_cons,List.length_append,ih,List.length_cons]; simp [by2]; omega
  rw [h1,List.length_take];simp only [List.length_cons,List.length_nil];omega
 refine zhj (Q:=fun r' H'=>∃ w,r' = .ex 0 [w] ∧ Ab p H' w ([k,r,s] ++ F 4) ∧ Bel p H3 H') ?_ ?_
 ·refine zmg (fun i L H'=>∃ w,L = [w,.int .i64 (i:Nat)] ∧ Ab p H' w ([k,r,s] ++ F i) ∧ Bel p H3 H' ∧ H'.get (p + 1) = H3.get (p + 1) ∧ w.pid ≠ some (p + 1)) 4 ?_ ?_ ?_
  ·exact ⟨_,rfl,by rw [hF0]; exact .full gA3 rfl (Nat.le_refl _) (by omega),Bel.refl _ _,rfl,by simp [V.pid]⟩
  ·rintro i _ H4 hi ⟨w,rfl,ha,hbel,hsame,hpid⟩;obtain ⟨y,hy,hc,hf⟩:=hints i hi;have n4:=hbel.next;have g4:=hsame.trans gB;have d:decide (((i:Nat):Int) < ((4:Nat):Int)) = true:=decide_eq_true (by omega);have d':decide (i < 4) = true:=decide_eq_true hi;have hia:∀ {kk:IntKind},Ax.iaddr none 1 (.sl (p + 1) 0 4 (.fix 4)) (.int kk ((i:Nat):Int)) = some (.ptr (p + 1) i):=fun {kk}=>by rw [zpa (by omega) (by omega),Int.toNat_natCast,Nat.mul_one,Nat.zero_add]
   have e3:shr y 8 = y / 256:=by rw [zFf,Nat.shiftRight_eq_div_pow]
   have w1:IntKind.u8.wrap ((y / 256:Nat):Int) = ((y / 256 % 256:Nat):Int):=by rw [wrap_u8]; rfl
   have w2:IntKind.u8.wrap ((y:Nat):Int) = ((y % 256:Nat):Int):=by rw [wrap_u8]; rfl
   have hli:=hfl i;unfold f_note_Bytes_0 uL uB uIM uc ub uq ug;simp (maxSteps:=1000000) (disch:=first | omega | (simp only [RY] <;> omega) | decide) only [↓RD,RZ,eq_self,Int.reduceToNat,Int.reduceAdd,Int.reduceSub,Int.reduceMul,Nat.reduceAdd,Nat.reduceSub,Nat.reduceMul,Nat.reduceDiv,Nat.reduceMod,Nat.reduceBEq,Nat.reduceLeDiff,d,d',hia,g4,hc,e3,w1,w2];have hkeep:=Apf.keep ha ((Grow.new H4 ⟨zaj,[.int .u8 (y / 256 % 256:Nat),.int .u8 (y % 256:Nat)],none⟩).keep _);refine zFA (m:=by2 y) hkeep (by rw [zaZ]; omega) (zo6 rfl) (by simp only [List.length_append,List.length_cons,List.length_nil,by2]; omega) fun w2 H5 h2 hb2 st2=>?_;have n5:=hb2.next;rw [zaZ] at n5;simp (maxSteps:=1000000) (disch:=first | omega | (simp only [RY] <;> omega) | decide) only [↓RD,RZ,eq_self,Int.reduceToNat,Int.reduceAdd,Int.reduceSub,Int.reduceMul,Nat.reduceAdd,Nat.reduceSub,Nat.reduceMul,Nat.reduceDiv,Nat.reduceMod,Nat.reduceBEq,Nat.reduceLeDiff];refine ⟨w2,rfl,by show Ab p H5 w2 ([k,r,s] ++ F (i + 1)); rw [hf,← List.append_assoc]; exact h2,hbel.trans (((Grow.new _ _).bel (by omega)).trans hb2),?_,fun e=>?_⟩
   ·rw [st2.same (p + 1) (by rw [zaZ]; omega) (by simp [zjX,hpid]),zeo _ _ (by omega)];exact hsame
   ·rcases st2.own (p + 1) (by simp [e]) with h | h
    ·exact hpid (by simpa [zjX] using h)
    ·rw [zaZ] at h; omega
  ·rintro _ H4 ⟨w,rfl,ha,hbel,hsame,hpid⟩;unfold f_note_Bytes_0 uL uB uIM uc ub uq ug;simp (maxSteps:=1000000) (disch:=first | omega | (simp only [RY] <;> omega) | decide) only [↓RD,RZ,eq_self,Int.reduceToNat,Int.reduceAdd,Int.reduceSub,Int.reduceMul,Nat.reduceAdd,Nat.reduceSub,Nat.reduceMul,Nat.reduceDiv,Nat.reduceMod,Nat.reduceBEq,Nat.reduceLeDiff];exact ⟨w,rfl,ha,hbel⟩
 ·rintro _ H4 ⟨w,rfl,ha,hbel⟩;have n4:=hbel.next;have s04:Grow H H4:=(s01.trans s13).bel' (by omega) hbel;have g4:=(hbel.same q (by omega)).trans g3;simp (maxSteps:=1000000) (disch:=first | omega | (simp only [RY] <;> omega) | decide) only [↓RD,RZ,eq_self,Int.reduceToNat,Int.reduceAdd,Int.reduceSub,Int.reduceMul,Nat.reduceAdd,Nat.reduceSub,Nat.reduceMul,Nat.reduceDiv,Nat.reduceMod,Nat.reduceBEq,Nat.reduceLeDiff,g4];refine zFB ha (by omega) (hb.ext s04).ac (by have:=hfl 4; simp only [List.length_append,List.length_cons,List.length_nil]; omega) fun w2 H5 h2 hb2=>?_;simp (maxSteps:=1000000) (disch:=first | omega | (simp only [RY] <;> omega) | decide) only [↓RD,RZ,eq_self,Int.reduceToNat,Int.reduceAdd,Int.reduceSub,Int.reduceMul,Nat.reduceAdd,Nat.reduceSub,Nat.reduceMul,Nat.reduceDiv,Nat.reduceMod,Nat.reduceBEq,Nat.reduceLeDiff];refine ⟨s04.bel' (by omega) hb2,.inr ⟨w2,rfl,?_⟩⟩;rw [hF4] at h2;exact Apf.low h2 (by omega)
end Go.Ax.SU
/- Dk4 -/
namespace Go.Ax.SU
open Go.Ax
def twoB (b:List Nat) (i:Nat):Nat:=b.getD i 0 * 256 + b.getD (i + 1) 0
def zN:Nt:=⟨0,0,0,0,0,0,[]⟩
def rawN (b:List Nat):Nt:=⟨(b.getD 0 0:Nat),(b.getD 1 0:Nat),(b.getD 2 0:Nat),(twoB b 3:Nat),(twoB b 5:Nat),(twoB b 7:Nat),b.drop 11⟩
def zrj (b:List Nat):Nat :=
 if b.length < 11 then 3 else if 200 < twoB b 9 then 4 else if b.length - 11 < twoB b 9 then 3 else if twoB b 9 < b.length - 11 then 2 else if zrv (rawN b) = false then 2 else 0
theorem twoB_lt {b:List Nat} (h:Ok8 b) (i:Nat):twoB b i < 65536:=by
 have h1:=h.getD i;have h2:=h.getD (i + 1);unfold twoB;omega
theorem two8 {x y:Nat} (hx:x < 256) (hy:y < 256):x * 256 ||| y = x * 256 + y:=or256 x y hy
theorem zxq {x:Nat} (h:x < 256):IntKind.i64.wrap ((x:Nat):Int) = ((x:Nat):Int):=wrap_i64 (by omega) (by omega)
theorem zu5 {lo:Nat} {H:Heap} {q:Nat} {bv:V} {b:List Nat} {i:Nat} (hq:H.get q = some ⟨zeI,[bv],none⟩) (hb:By lo H bv b) (b8:Ok8 b) (hi:i + 1 < b.length) (hl:b.length ≤ 1000000) :
  Ok (sem T zbd [.int .i64 (i:Nat),.ptr q 0]) H fun r H'=>r = .int .i64 (twoB b i:Nat) ∧ H' = H:=by
 refine zvL ?_;unfold f_note_Parse_1 uL uM uB uIM uc uq;obtain ⟨p0,hp0,hl0,-⟩:=zxN hb (i:=(i:Nat)) (by omega) (by omega);obtain ⟨p1,hp1,hl1,-⟩:=zxN hb (i:=((i + 1:Nat):Int)) (by omega) (by omega);rw [Int.toNat_natCast] at hl0 hl1;have h0:=b8.getD i;have h1:=b8.getD (i + 1);have c0:=zxq h0;have c1:=zxq h1;have w:IntKind.i64.wrap (((i:Nat):Int) + 1) = ((i + 1:Nat):Int):=by rw [wrap_i64 (by omega) (by omega)]; omega
 have sh:Ax.bin .shl (.int .i64 (b.getD i 0:Nat)) (.int .u64 8) = some (.int .i64 (b.getD i 0 * 256:Nat)):=by
  rw [zqU (by decide)];have:((b.getD i 0:Nat):Int) * 2 ^ min (8:Int).toNat IntKind.i64.bits = ((b.getD i 0 * 256:Nat):Int):=by
   show ((b.getD i 0:Nat):Int) * 256 = _;omega
  rw [this,wrap_i64 (by omega) (by omega)]
 have ho:=two8 h0 h1;unfold twoB;generalize b.getD i 0 = x at *;generalize b.getD (i + 1) 0 = y at *;have ho':Ax.bin .or (.int .i64 (x * 256:Nat)) (.int .i64 (y:Nat)) = some (.int .i64 (x * 256 + y:Nat)):=by
  rw [zFw (by omega) (by omega) (by omega) (by omega),Int.toNat_natCast,Int.toNat_natCast,ho]
 simp (disch:=omega) only [↓RD,RZ,hq,hp0,hl0,hp1,hl1,c0,c1,w,sh,ho']
theorem zEP {lo:Nat} {H:Heap} {bv:V} {b:List Nat} (hb:By lo H bv b) (b8:Ok8 b) (hl:b.length ≤ 1000000) (hk:Pl3 (rawN b)) :
  Ok (sem T zcp [bv]) H fun r H'=>Grow H H' ∧ (zrj b ≠ 0 ∧ r = .tup [.agg (nC zN .nils),.int .i64 (zrj b:Nat)] ∨ zrj b = 0 ∧ ∃ v,r = .tup [.agg (nC (rawN b) v),.int .i64 0] ∧ By H.next H' v (b.drop 11)):=by
 refine zy4 ?_;unfold f_note_Parse uL uM uS uT uF uB uI uO uU uc;have vc:=hb.cells1;have vo:=hb.okc;refine zbO (zgV vo ?_);rw [vc];have s0:=Grow.new H ⟨zeI,[bv],none⟩;have g0:(H.new ⟨zeI,[bv],none⟩).get H.next = some ⟨zeI,[bv],none⟩:=zat _ _;have n0:(H.new ⟨zeI,[bv],none⟩).next = H.next + 1:=zaZ _ _;generalize hq:H.next = q at *;generalize H.new _ = H0 at *;refine zbO (zgV rfl ?_);rw [zbI];have s1:=Grow.new H0 ⟨zag,nC zN .nils,none⟩;have p1:(H0.new ⟨zag,nC zN .nils,none⟩).get H0.next = some ⟨zag,nC zN .nils,none⟩:=zat _ _;have n1:(H0.new ⟨zag,nC zN .nils,none⟩).next = H0.next + 1:=zaZ _ _;have g1:=(s1.same q (by omega)).trans g0;show Ok _ (H0.new ⟨zag,nC zN .nils,none⟩) _;rw [n0] at *;generalize H0.new _ = H1 at *;have hb1:=hb.ext (s0.trans s1);have bl:=hb1.vlen;have s01:=s0.trans s1;have fin:∀ (H2:Heap) (cs:List V),Grow H H2 → Grow H (H2.set (q + 1) (some ⟨zag,cs,none⟩)):=fun H2 cs h=>h.set (by omega) _;by_cases hlen:b.length < 11
 ·have e:zrj b = 3:=by unfold zrj; rw [if_pos hlen]
  have d:decide (((b.length:Nat):Int) < 11) = true:=decide_eq_true (by omega);have d':decide (b.length < 11) = true:=decide_eq_true hlen;rw [e];unfold nC zN at p1;simp (maxSteps:=1000000) (disch:=first | omega | (simp only [RY] <;> omega) | decide) only [↓RD,RZ,eq_self,Int.reduceToNat,Int.reduceAdd,Int.reduceSub,Int.reduceMul,Nat.reduceAdd,Nat.reduceSub,Nat.reduceMul,Nat.reduceDiv,Nat.reduceMod,Nat.reduceBEq,Nat.reduceLeDiff,g1,bl,d,d',p1];exact ⟨fin _ _ s01,.inl ⟨by decide,rfl⟩⟩
 have d:decide (((b.length:Nat):Int) < 11) = false:=decide_eq_false (by omega);have d':decide (b.length < 11) = false:=decide_eq_false hlen;obtain ⟨p0,hp0,hl0,-⟩:=zxN hb1 (i:=0) (by omega) (by omega);obtain ⟨p1',hp1,hl1,-⟩:=zxN hb1 (i:=1) (by omega) (by omega);obtain ⟨p2,hp2,hl2,-⟩:=zxN hb1 (i:=2) (by omega) (by omega);have c0:=zxq (b8.getD 0);have c1:=zxq (b8.getD 1);have c2:=zxq (b8.getD 2);have t3:=@zbY _ _ _ _ (show Ok (callv (sem T) (.fn zbd [.ptr q 0]) [.int .i64 3]) H1 _ from zu5 (i:=3) g1 hb1 b8 (by omega) hl);have t5:=@zbY _ _ _ _ (show Ok (callv (sem T) (.fn zbd [.ptr q 0]) [.int .i64 5]) H1 _ from zu5 (i:=5) g1 hb1 b8 (by omega) hl);have t7:=@zbY _ _ _ _ (show Ok (callv (sem T) (.fn zbd [.ptr q 0]) [.int .i64 7]) H1 _ from zu5 (i:=7) g1 hb1 b8 (by omega) hl);simp (maxSteps:=1000000) (disch:=first | omega | (simp only [RY] <;> omega) | decide) only [↓RD,RZ,eq_self,Int.reduceToNat,Int.reduceAdd,Int.reduceSub,Int.reduceMul,Nat.reduceAdd,Nat.reduceSub,Nat.reduceMul,Nat.reduceDiv,Nat.reduceMod,Nat.reduceBEq,Nat.reduceLeDiff,g1,bl,d,d',hp0,hp1,hp2,hl0,hl1,hl2,c0,c1,c2,t3,t5,t7];have h8:=b8.getD;have s2:Grow H1 ((H1.new ⟨zag,[.int .i64 0,.int .i64 0,.int .i64 0,.int .i64 0,.int .i64 0,.int .i64 0,.nils],none⟩).set H1.next (some ⟨zag,nC { rawN b with b:=[] } .nils,none⟩)):=(Grow.new _ _).set (Nat.le_refl _) _;have p3:((H1.new ⟨zag,[.int .i64 0,.int .i64 0,.int .i64 0,.int .i64 0,.int .i64 0,.int .i64 0,.nils],none⟩).set H1.next (some ⟨zag,nC { rawN b with b:=[] } .nils,none⟩)).get H1.next = _:=zc1 _ _ _;have n2:((H1.new ⟨zag,[.int .i64 0,.int .i64 0,.int .i64 0,.int .i64 0,.int .i64 0,.int .i64 0,.nils],none⟩).set H1.next (some ⟨zag,nC { rawN b with b:=[] } .nils,none⟩)).next = H1.next + 1:=rfl;have hn1:H1.next = q + 2:=by omega
 rw [hn1] at s2 p3 n2;have en1:q + 1 + 1 = q + 2:=rfl;rw [hn1];unfold nC rawN at s2 p3 n2;dsimp only at s2 p3 n2;generalize Heap.set (Heap.new H1 _) _ _ = H2 at *;have g2:=(s2.same q (by omega)).trans g1;have p2:=(s2.same (q + 1) (by omega)).trans p1;have hb2:=hb1.ext s2;have s02:=s01.trans s2;obtain ⟨rv,-,-,hs,hrv,-⟩:=zDp hb2 (x:=11) (y:=(b.length:Nat)) (by omega) (by omega) (by omega);replace hs:∀ {kk:IntKind},zbr .sl 1 bv (some (.int kk 11)) none none = some rv:=hs rfl;have hr2:By lo H2 rv (b.drop 11):=by
  have e:((b.drop (11:Int).toNat).take (((b.length:Nat):Int).toNat - (11:Int).toNat)) = b.drop 11:=List.take_of_length_le (by rw [List.length_drop,Int.toNat_natCast]; exact Nat.le_refl _);rw [e] at hrv;exact hrv
 have rl:=hr2.vlen;rw [List.length_drop] at rl;have t9:=@zbY _ _ _ _ (show Ok (callv (sem T) (.fn zbd [.ptr q 0]) [.int .i64 9]) H2 _ from zu5 (i:=9) g2 hb2 b8 (by omega) hl);have h9:=twoB_lt b8 9;unfold nC zN at p2;dsimp only at p2;have eE:zrj b = if 200 < twoB b 9 then 4 else if b.length - 11 < twoB b 9 then 3 else if twoB b 9 < b.length - 11 then 2 else if zrv (rawN b) = false then 2 else 0:=by
  unfold zrj;rw [if_neg hlen]
 simp (maxSteps:=1000000) (disch:=first | omega | (simp only [RY] <;> omega) | decide) only [↓RD,RZ,eq_self,Int.reduceToNat,Int.reduceAdd,Int.reduceSub,Int.reduceMul,Nat.reduceAdd,Nat.reduceSub,Nat.reduceMul,Nat.reduceDiv,Nat.reduceMod,Nat.reduceBEq,Nat.reduceLeDiff,hs,t9];by_cases k1:200 < twoB b 9
 ·have d1:decide ((200:Int) < ((twoB b 9:Nat):Int)) = true:=decide_eq_true (by omega);have d1':decide (200 < twoB b 9) = true:=decide_eq_true k1;rw [if_pos k1] at eE;rw [eE];simp (maxSteps:=1000000) (disch:=first | omega | (simp only [RY] <;> omega) | decide) only [↓RD,RZ,eq_self,Int.reduceToNat,Int.reduceAdd,Int.reduceSub,Int.reduceMul,Nat.reduceAdd,Nat.reduceSub,Nat.reduceMul,Nat.reduceDiv,Nat.reduceMod,Nat.reduceBEq,Nat.reduceLeDiff,d1,d1',p2];exact ⟨fin _ _ s02,.inl ⟨by decide,rfl⟩⟩
 have d1:decide ((200:Int) < ((twoB b 9:Nat):Int)) = false:=decide_eq_false (by omega);have d1':decide (200 < twoB b 9) = false:=decide_eq_false k1;rw [if_neg k1] at eE;by_cases k2:b.length - 11 < twoB b 9
 ·have d2:decide (((b.length - 11:Nat):Int) < ((twoB b 9:Nat):Int)) = true:=decide_eq_true (by omega);have d2':decide (b.length - 11 < twoB b 9) = true:=decide_eq_true k2;rw [if_pos k2] at eE;rw [eE];simp (maxSteps:=1000000) (disch:=first | omega | (simp only [RY] <;> omega) | decide) only [↓RD,RZ,eq_self,Int.reduceToNat,Int.reduceAdd,Int.reduceSub,Int.reduceMul,Nat.reduceAdd,Nat.reduceSub,Nat.reduceMul,Nat.reduceDiv,Nat.reduceMod,Nat.reduceBEq,Nat.reduceLeDiff,d1,d1',rl,d2,d2',p2];exact ⟨fin _ _ s02,.inl ⟨by decide,rfl⟩⟩
 have d2:decide (((b.length - 11:Nat):Int) < ((twoB b 9:Nat):Int)) = false:=decide_eq_false (by omega);have d2':decide (b.length - 11 < twoB b 9) = false:=decide_eq_false k2;rw [if_neg k2] at eE;by_cases k3:twoB b 9 < b.length - 11
 ·have d3:decide (((twoB b 9:Nat):Int) < ((b.length - 11:Nat):Int)) = true:=decide_eq_true (by omega);have d3':decide (twoB b 9 < b.length - 11) = true:=decide_eq_true k3;rw [if_pos k3] at eE;rw [eE];simp (maxSteps:=1000000) (disch:=first | omega | (simp only [RY] <;> omega) | decide) only [↓RD,RZ,eq_self,Int.reduceToNat,Int.reduceAdd,Int.reduceSub,Int.reduceMul,Nat.reduceAdd,Nat.reduceSub,Nat.reduceMul,Nat.reduceDiv,Nat.reduceMod,Nat.reduceBEq,Nat.reduceLeDiff,d1,d1',rl,d2,d2',d3,d3',p2];exact ⟨fin _ _ s02,.inl ⟨by decide,rfl⟩⟩
 have d3:decide (((twoB b 9:Nat):Int) < ((b.length - 11:Nat):Int)) = false:=decide_eq_false (by omega);have d3':decide (twoB b 9 < b.length - 11) = false:=decide_eq_false k3;rw [if_neg k3] at eE;simp (maxSteps:=1000000) (disch:=first | omega | (simp only [RY] <;> omega) | decide) only [↓RD,RZ,eq_self,Int.reduceToNat,Int.reduceAdd,Int.reduceSub,Int.reduceMul,Nat.reduceAdd,Nat.reduceSub,Nat.reduceMul,Nat.reduceDiv,Nat.reduceMod,Nat.reduceBEq,Nat.reduceLeDiff,d1,d1',rl,d2,d2',d3,d3'];refine za8 (zDo hr2 (by rw [List.length_drop]; omega)) ?_;rintro v H3 ⟨hv,s3⟩;have n3:=s3.next;have p33:=(s3.same (q + 2) (by omega)).trans p3;have p23:=(s3.same (q + 1) (by omega)).trans p2;have vc3:=hv.by.cells1;have vo3:=hv.by.okc;simp (maxSteps:=1000000) (disch:=first | omega | (simp only [RY] <;> omega) | decide) only [↓RD,RZ,eq_self,Int.reduceToNat,Int.reduceAdd,Int.reduceSub,Int.reduceMul,Nat.reduceAdd,Nat.reduceSub,Nat.reduceMul,Nat.reduceDiv,Nat.reduceMod,Nat.reduceBEq,Nat.reduceLeDiff,p33,vc3,vo3];rw [zhW];have n2':H2.next = q + 3:=by omega
 have a4:AtS [q + 2] H3 (H3.set (q + 2) (some ⟨zag,nC (rawN b) v,none⟩)):=AtS.set _ (by simp) _;have s34:Grow H (H3.set (q + 2) (some ⟨zag,nC (rawN b) v,none⟩)):=(s02.trans s3).set (by omega) _;have p34:(H3.set (q + 2) (some ⟨zag,nC (rawN b) v,none⟩)).get (q + 2) = _:=zc1 _ _ _;have p24:(H3.set (q + 2) (some ⟨zag,nC (rawN b) v,none⟩)).get (q + 1) = _:=(zcL _ _ (by omega)).trans p23;have n4:(H3.set (q + 2) (some ⟨zag,nC (rawN b) v,none⟩)).next = H3.next:=rfl;have hv4:=Lc.atS hv.by a4 fun j hj h=>by
  have:=(hv.by.own j hj).1;simp only [List.mem_singleton] at h;omega
 show Ok _ (H3.set (q + 2) (some ⟨zag,nC (rawN b) v,none⟩)) _;generalize Heap.set H3 _ _ = H4 at *;refine za8 (zAY (x:=rawN b) (bv:=v) hv4 hk) ?_;rintro _ H5 ⟨rfl,s5⟩;have p35:=(s5.same (q + 2) (by omega)).trans p34;have p25:=(s5.same (q + 1) (by omega)).trans p24;have s05:=s34.trans s5;have hv5:=hv4.ext s5;cases hg:zrv (rawN b) with
 | false =>
  rw [if_pos hg] at eE;rw [eE];simp (maxSteps:=1000000) (disch:=first | omega | (simp only [RY] <;> omega) | decide) only [↓RD,RZ,eq_self,Int.reduceToNat,Int.reduceAdd,Int.reduceSub,Int.reduceMul,Nat.reduceAdd,Nat.reduceSub,Nat.reduceMul,Nat.reduceDiv,Nat.reduceMod,Nat.reduceBEq,Nat.reduceLeDiff,p25];exact ⟨fin _ _ s05,.inl ⟨by decide,rfl⟩⟩
 | true =>
  rw [if_neg (by rw [hg]; decide)] at eE;have l7:ldc (some 7) (nC (rawN b) v) 0 = some (.agg (nC (rawN b) v)):=rfl;have hc7:(nC (rawN b) v).length = 7:=rfl;have ok7:(V.agg (nC (rawN b) v)).okc = true:=by simp [nC,V.okc,vo3]
  have sp7:splice [.int .i64 0,.int .i64 0,.int .i64 0,.int .i64 0,.int .i64 0,.int .i64 0,.nils] 0 (nC (rawN b) v) = nC (rawN b) v:=rfl;rw [eE];simp (maxSteps:=1000000) (disch:=first | omega | (simp only [RY] <;> omega) | decide) only [↓RD,RZ,eq_self,Int.reduceToNat,Int.reduceAdd,Int.reduceSub,Int.reduceMul,Nat.reduceAdd,Nat.reduceSub,Nat.reduceMul,Nat.reduceDiv,Nat.reduceMod,Nat.reduceBEq,Nat.reduceLeDiff,p35,l7,p25,zbI,hc7,ok7,sp7];refine ⟨fin _ _ s05,.inr ⟨v,rfl,?_⟩⟩;exact (Lc.atS hv5 (AtS.set (S:=[q + 1]) H5 (by simp) _) fun j hj h=>by
   have:=(hv.by.own j hj).1;simp only [List.mem_singleton] at h;omega).low (by omega)
end Go.Ax.SU
/- Dk5 -/
namespace Go.Ax.SU
open Go.Ax
structure Tb where
 u:List Bool
 a:List Int
structure TbO (t:Tb):Prop where
 u8:t.u.length = 8
 a8:t.a.length = 8
def tC (t:Tb):List V:=t.u.map .bool ++ t.a.map (.int .i64)
def Tb.uG (t:Tb) (i:Nat):Bool:=t.u.getD i false
def Tb.aG (t:Tb) (i:Nat):Int:=t.a.getD i 0
def hitS (t:Tb) (a:Int) (i:Nat):Bool:=t.uG i && decide (a = t.aG i)
def zxr (t:Tb) (a:Int):Option Nat:=(List.range 8).find? (hitS t a)
def zrw (t:Tb) (i:Nat):Bool:=if t.uG i then decide (zxr t (t.aG i) = some i) && (decide (0 ≤ t.aG i) && decide (t.aG i ≤ 63)) else decide (t.aG i = 0)
def zzb (t:Tb):Bool:=(List.range 8).all (zrw t)
def fv (o:Option Nat):V:=match o with | some j=>.tup [.int .i64 (j:Nat),.bool true] | none=>.tup [.int .i64 0,.bool false]
theorem tC_len {t:Tb} (h:TbO t):(tC t).length = 16:=by unfold tC; rw [List.length_append,List.length_map,List.length_map,h.u8,h.a8]
theorem tC_u {t:Tb} (h:TbO t) {i:Nat} (hi:i < 8):(tC t)[i]? = some (.bool (t.uG i)):=by
 unfold tC Tb.uG;rw [List.getElem?_append_left (by rw [List.length_map,h.u8]; exact hi),List.getElem?_map,List.getElem?_eq_getElem (by rw [h.u8]; exact hi),List.getD_eq_getElem?_getD,List.getElem?_eq_getElem (by rw [h.u8]; exact hi)];rfl
theorem tC_a {t:Tb} (h:TbO t):ldc (some 8) (tC t) 8 = some (.agg (t.a.map (.int .i64))):=by
 have:=tC_len h;simp only [ldc];rw [if_pos (by omega)];unfold tC;rw [List.drop_left' (by rw [List.length_map,h.u8]),List.take_of_length_le (by rw [List.length_map,h.a8]; exact Nat.le_refl _)]
theorem tC_all {t:Tb} (h:TbO t):ldc (some 16) (tC t) 0 = some (.agg (tC t)):=by
 have:=tC_len h;simp only [ldc];rw [if_pos (by omega),List.drop_zero,List.take_of_length_le (by omega)]
theorem aG_at {t:Tb} (h:TbO t) {i:Nat} (hi:i < 8):Ax.index 8 1 none (.agg (t.a.map (.int .i64))) (.int .i64 (i:Nat)) = some (.int .i64 (t.aG i)):=by
 simp only [Ax.index];rw [if_pos (by omega),Int.toNat_natCast,Nat.mul_one];simp only [ldc];rw [List.getElem?_map,List.getElem?_eq_getElem (by rw [h.a8]; exact hi)];unfold Tb.aG;rw [List.getD_eq_getElem?_getD,List.getElem?_eq_getElem (by rw [h.a8]; exact hi)];rfl
theorem ia8 {q i:Nat} (hi:i < 8) {k:IntKind}:Ax.iaddr (some 8) 1 (.ptr q 0) (.int k (i:Nat)) = some (.ptr q i):=by
 simp only [Ax.iaddr];rw [if_pos (by omega),Int.toNat_natCast,Nat.mul_one,Nat.zero_add]
theorem tC_ok (t:Tb):(V.agg (tC t)).okc = true:=by
 simp [V.okc,tC]
theorem zD8 {p:Nat → Bool} {n i:Nat} (hi:i < n) (hp:p i = true) (hno:∀ k,k < i → p k = false):(List.range n).find? p = some i:=by
 rw [List.find?_range_eq_some];exact ⟨hp,by simpa using hi,fun k hk=>by simpa using hno k hk⟩
theorem zD7 {p:Nat → Bool} {n:Nat} (hno:∀ k,k < n → p k = false):(List.range n).find? p = none:=by
 rw [List.find?_eq_none];intro x hx;rw [hno x (List.mem_range.1 hx)];decide
theorem zA1 {H:Heap} {t:Tb} (ht:TbO t) (a:Int):Ok (sem T zbM [.agg (tC t),.int .i64 a]) H fun r H'=>r = fv (zxr t a) ∧ Grow H H':=by
 refine zy0 ?_;unfold f_slots_find uS uF uO uc;refine zbO (zgV (tC_ok t) ?_);rw [zbI];have s0:=Grow.new H ⟨zav,tC t,none⟩;have g0:(H.new ⟨zav,tC t,none⟩).get H.next = some ⟨zav,tC t,none⟩:=zat _ _;generalize hq:H.next = q at *;generalize H.new _ = H0 at *;have hA:=tC_a ht;simp (disch:=omega) only [↓RD,RZ,g0,hA];refine zhj (Q:=fun r H'=>H' = H0 ∧ ((r = .ex 0 [] ∧ zxr t a = none) ∨ ∃ i:Nat,r = .ret [.int .i64 (i:Nat),.bool true] ∧ zxr t a = some i)) ?_ ?_
 ·refine zmg (fun j L H'=>L = [.int .i64 (j:Nat)] ∧ H' = H0 ∧ ∀ k,k < j → hitS t a k = false) 8 ?_ ?_ ?_
  ·exact ⟨rfl,rfl,fun k hk=>by omega⟩
  ·rintro j _ H1 hj ⟨rfl,rfl,hno⟩;have d1:decide (((j:Nat):Int) < 8) = true:=decide_eq_true (by omega);have d1':decide (j < 8) = true:=decide_eq_true hj;have hx:=aG_at ht hj;have hu:=tC_u ht hj;have hi:=fun {k}=>@ia8 q j hj k;have w1:IntKind.i64.wrap (((j:Nat):Int) + 1) = ((j + 1:Nat):Int):=by rw [wrap_i64 (by omega) (by omega)]; omega
   have step:hitS t a j = false → ∀ k,k < j + 1 → hitS t a k = false:=fun h k hk=>by
    by_cases hkk:k < j
    ·exact hno k hkk
    ·have:k = j:=by omega
     subst this;exact h
   unfold f_slots_find_0 uL uF uB uIM uG uH uc ug;cases hb:t.uG j with
   | false =>
    rw [hb] at hu;simp (disch:=omega) only [↓RD,RZ,d1,d1',hx,hi,g0,hu,w1];exact step (by unfold hitS; rw [hb]; rfl)
   | true =>
    rw [hb] at hu;by_cases ha:a = t.aG j
    ·have b2:(a == t.aG j) = true:=by simpa using ha
     simp (disch:=omega) only [↓RD,RZ,d1,d1',hx,hi,g0,hu,b2];exact .inr ⟨j,rfl,zD8 hj (by unfold hitS; rw [hb,decide_eq_true ha]; rfl) hno⟩
    ·have b2:(a == t.aG j) = false:=by simpa using ha
     simp (disch:=omega) only [↓RD,RZ,d1,d1',hx,hi,g0,hu,b2,w1];exact step (by unfold hitS; rw [hb,decide_eq_false ha]; rfl)
  ·rintro _ H1 ⟨rfl,rfl,hno⟩;unfold f_slots_find_0 uL uF uB uIM uG uH uc ug;simp (disch:=omega) only [↓RD,RZ];exact .inl (zD7 hno)
 ·rintro _ H1 ⟨rfl,⟨rfl,h⟩ | ⟨i,rfl,h⟩⟩
  ·rw [h]; simp (disch:=omega) only [↓RD,RZ]; exact ⟨rfl,s0⟩
  ·rw [h]; simp (disch:=omega) only [↓RD,RZ]; exact ⟨rfl,s0⟩
end Go.Ax.SU
/- Dk6 -/
namespace Go.Ax.SU
open Go.Ax
theorem zGs {H:Heap} (x:Int):Ok (sem T zb8 [.int .i64 x]) H fun r H'=>r = .bool (decide (0 ≤ x) && decide (x ≤ 63)) ∧ H' = H:=by
 refine zy1 ?_;unfold f_slots_addr uL uB uG uH uc;by_cases h:0 ≤ x
 ·have d:decide ((0:Int) ≤ x) = true:=decide_eq_true h;simp (disch:=omega) only [↓RD,RZ,d,Bool.true_and]
 ·have d:decide ((0:Int) ≤ x) = false:=decide_eq_false h;simp (disch:=omega) only [↓RD,RZ,d,Bool.false_and]
theorem zwP {H:Heap} (x:Int):Ok (sem T zcg [.int .i64 x]) H fun r H'=>r = .bool (decide (0 ≤ x) && decide (x ≤ 63)) ∧ H' = H:=by
 refine zAQ ?_;unfold f_desk_addr uL uB uG uH uc;by_cases h:0 ≤ x
 ·have d:decide ((0:Int) ≤ x) = true:=decide_eq_true h;simp (disch:=omega) only [↓RD,RZ,d,Bool.true_and]
 ·have d:decide ((0:Int) ≤ x) = false:=decide_eq_false h;simp (disch:=omega) only [↓RD,RZ,d,Bool.false_and]
theorem zF1 {t:Tb} {i:Nat} (hi:i < 8) (hu:t.uG i = true):∃ j,zxr t (t.aG i) = some j:=by
 cases h:zxr t (t.aG i) with
 | some j=>exact ⟨j,rfl⟩
 | none =>
  have:=(List.find?_eq_none.1 h) i (List.mem_range.2 hi);exact absurd (show hitS t (t.aG i) i = true by unfold hitS; rw [hu,decide_eq_true rfl]; rfl) this
theorem zFO {H:Heap} {t:Tb} (ht:TbO t):Ok (sem T zbs [.agg (tC t)]) H fun r H'=>r = .bool (zzb t) ∧ Grow H H':=by
 refine zy2 ?_;unfold f_slots_Good uS uF uO uc;refine zbO (zgV (tC_ok t) ?_);rw [zbI];have s0:=Grow.new H ⟨zav,tC t,none⟩;have g0:(H.new ⟨zav,tC t,none⟩).get H.next = some ⟨zav,tC t,none⟩:=zat _ _;have n0:(H.new ⟨zav,tC t,none⟩).next = H.next + 1:=zaZ _ _;generalize hq:H.next = q at *;generalize H.new _ = H0 at *;have hA:=tC_a ht;have hAll:=tC_all ht;simp (disch:=omega) only [↓RD,RZ,g0,hA];refine zhj (Q:=fun r H'=>Grow H0 H' ∧ ((r = .ex 0 [] ∧ zzb t = true) ∨ (r = .ret [.bool false] ∧ zzb t = false))) ?_ ?_
 ·refine zmg (fun j L H'=>L = [.int .i64 (j:Nat)] ∧ Grow H0 H' ∧ ∀ k,k < j → zrw t k = true) 8 ?_ ?_ ?_
  ·exact ⟨rfl,Grow.refl _,fun k hk=>by omega⟩
  ·rintro j _ H1 hj ⟨rfl,s1,hyes⟩;have n1:=s1.next;have g1:=(s1.same q (by omega)).trans g0;have d1:decide (((j:Nat):Int) < 8) = true:=decide_eq_true (by omega);have d1':decide (j < 8) = true:=decide_eq_true hj;have hx:=aG_at ht hj;have hu:=tC_u ht hj;have hi:=fun {k}=>@ia8 q j hj k;have w1:IntKind.i64.wrap (((j:Nat):Int) + 1) = ((j + 1:Nat):Int):=by rw [wrap_i64 (by omega) (by omega)]; omega
   have step:zrw t j = true → ∀ k,k < j + 1 → zrw t k = true:=fun h k hk=>by
    by_cases hkk:k < j
    ·exact hyes k hkk
    ·have:k = j:=by omega
     subst this;exact h
   have bad:zrw t j = false → zzb t = false:=fun h=>by
    cases hh:zzb t with
    | false=>rfl
    | true =>
     have:=List.all_eq_true.1 hh j (List.mem_range.2 hj);rw [h] at this;cases this
   unfold f_slots_Good_0 uL uS uF uE uB uIM uG uH uc ug;cases hb:t.uG j with
   | false =>
    rw [hb] at hu;by_cases ha:t.aG j = 0
    ·have b2:(t.aG j == 0) = true:=by simpa using ha
     simp (disch:=omega) only [↓RD,RZ,d1,d1',hx,hi,g1,hu,b2,Bool.not_true,w1];exact ⟨s1,step (by unfold zrw; rw [hb]; simpa using ha)⟩
    ·have b2:(t.aG j == 0) = false:=by simpa using ha
     simp (disch:=omega) only [↓RD,RZ,d1,d1',hx,hi,g1,hu,b2,Bool.not_false];exact ⟨s1,.inr (bad (by unfold zrw; rw [hb]; simpa using ha))⟩
   | true =>
    rw [hb] at hu;simp (disch:=omega) only [↓RD,RZ,d1,d1',hx,hi,g1,hu,hAll];refine za8 (zA1 ht (t.aG j)) ?_;rintro _ H2 ⟨rfl,s2⟩;obtain ⟨i,hfi⟩:=zF1 hj hb;have ea:zrw t j = (decide (i = j) && (decide (0 ≤ t.aG j) && decide (t.aG j ≤ 63))):=by
     unfold zrw;rw [if_pos hb,hfi];congr 1;exact decide_eq_decide.2 (by simp)
    have w2:=@zbY _ _ _ _ (@zGs H2 (t.aG j));rw [hfi];unfold fv;by_cases hij:i = j
    ·have b3:(((i:Nat):Int) == ((j:Nat):Int)) = true:=by rw [hij]; simp
     have b3':(i == j) = true:=by simpa using hij
     rw [decide_eq_true hij,Bool.true_and] at ea;generalize (decide (0 ≤ t.aG j) && decide (t.aG j ≤ 63)) = w at *;cases w with
     | true =>
      simp (disch:=omega) only [↓RD,RZ,b3,b3',Bool.not_true,w2,w1];exact ⟨s1.trans s2,step ea⟩
     | false =>
      simp (disch:=omega) only [↓RD,RZ,b3,b3',Bool.not_true,w2];exact ⟨s1.trans s2,.inr (bad ea)⟩
    ·have b3:(((i:Nat):Int) == ((j:Nat):Int)) = false:=by simp; omega
     have b3':(i == j) = false:=by simpa using hij
     rw [decide_eq_false hij,Bool.false_and] at ea;simp (disch:=omega) only [↓RD,RZ,b3,b3',Bool.not_false];exact ⟨s1.trans s2,.inr (bad ea)⟩
  ·rintro _ H1 ⟨rfl,s1,hyes⟩;unfold f_slots_Good_0 uL uS uF uE uB uIM uG uH uc ug;simp (disch:=omega) only [↓RD,RZ];exact ⟨s1,.inl (List.all_eq_true.2 fun k hk=>hyes k (List.mem_range.1 hk))⟩
 ·rintro _ H1 ⟨s1,⟨rfl,h⟩ | ⟨rfl,h⟩⟩
  ·rw [h]; simp (disch:=omega) only [↓RD,RZ]; exact s0.trans s1
  ·rw [h]; simp (disch:=omega) only [↓RD,RZ]; exact s0.trans s1
theorem zGz {H:Heap} {t:Tb} (ht:TbO t) (a:Int):Ok (sem T zb9 [.agg (tC t),.int .i64 a]) H fun r H'=>r = fv (if zzb t then zxr t a else none) ∧ Grow H H':=by
 refine zy3 ?_;unfold f_slots_Find uL uS uE uO uc;refine zbO (zgV (tC_ok t) ?_);rw [zbI];have s0:=Grow.new H ⟨zav,tC t,none⟩;have g0:(H.new ⟨zav,tC t,none⟩).get H.next = some ⟨zav,tC t,none⟩:=zat _ _;have n0:(H.new ⟨zav,tC t,none⟩).next = H.next + 1:=zaZ _ _;generalize hq:H.next = q at *;generalize H.new _ = H0 at *;have hAll:=tC_all ht;simp (disch:=omega) only [↓RD,RZ,g0,hAll];refine za8 (zFO ht) ?_;rintro _ H1 ⟨rfl,s1⟩;have g1:=(s1.same q (by omega)).trans g0;cases hg:zzb t with
 | false=>simp (disch:=omega) only [↓RD,RZ]; exact ⟨rfl,s0.trans s1⟩
 | true =>
  simp (disch:=omega) only [↓RD,RZ,g1,hAll];refine za8 (zA1 ht a) ?_;rintro _ H2 ⟨rfl,s2⟩;unfold fv;cases zxr t a with
  | none=>simp (disch:=omega) only [↓RD,RZ]; exact (s0.trans s1).trans s2
  | some j=>simp (disch:=omega) only [↓RD,RZ]; exact (s0.trans s1).trans s2
end Go.Ax.SU
/- Dk7 -/
namespace Go.Ax.SU
open Go.Ax
abbrev tyDk:=ztJ
structure DkH (H:Heap) (d:Nat) (D:List V) (t:Nat → Tb):Prop where
 blk:H.get d = some ⟨tyDk,D,none⟩
 len:D.length = 1535
 tb:∀ i,i < 4 → ldc (some 16) D (i * 367) = some (.agg (tC (t i))) ∧ TbO (t i)
theorem DkH.to {H H':Heap} {d:Nat} {D:List V} {t:Nat → Tb} (h:DkH H d D t) (e:H'.get d = H.get d):DkH H' d D t:=⟨e.trans h.blk,h.len,h.tb⟩
def inS (t:Tb) (a:Int):Option Nat:=if zzb t then zxr t a else none
def zqW (t:Nat → Tb) (a:Int):Option (Nat × Nat):=(List.range 4).findSome? fun i=>(inS (t i) a).map fun s=>(i,s)
def wv (d:Nat) (o:Option (Nat × Nat)):V:=match o with | some (i,s)=>.tup [.ptr d (i * 367),.int .i64 (s:Nat),.bool true] | none=>.tup [.nilp,.int .i64 0,.bool false]
theorem zDA {t:Nat → Tb} {a:Int} (h:∀ k,k < 4 → inS (t k) a = none):zqW t a = none:=by
 unfold zqW;rw [List.findSome?_eq_none_iff];intro x hx;rw [h x (List.mem_range.1 hx)];rfl
theorem zDz {t:Nat → Tb} {a:Int} {i s:Nat} (hi:i < 4) (hs:inS (t i) a = some s) (h:∀ k,k < i → inS (t k) a = none):zqW t a = some (i,s):=by
 unfold zqW;have e:List.range 4 = List.range i ++ i :: (List.range' (i + 1) (3 - i)):=by
  have:i = 0 ∨ i = 1 ∨ i = 2 ∨ i = 3:=by omega
  rcases this with rfl | rfl | rfl | rfl <;> rfl
 rw [e,List.findSome?_append];have h1:(List.range i).findSome? (fun i=>(inS (t i) a).map fun s=>(i,s)) = none:=by
  rw [List.findSome?_eq_none_iff];intro x hx;rw [h x (List.mem_range.1 hx)];rfl
 rw [h1,List.findSome?_cons,hs];rfl
theorem where_ok {H:Heap} {d:Nat} {D:List V} {t:Nat → Tb} (hd:DkH H d D t) (hdl:d < H.next) (a:Int):Ok (sem T za9 [.ptr d 0,.int .i64 a]) H fun r H'=>r = wv d (zqW t a) ∧ Grow H H':=by
 refine zrm ?_;unfold f_desk_Desk_where uc;simp (disch:=omega) only [↓RD,RZ];refine zhj (Q:=fun r H'=>Grow H H' ∧ ((r = .ex 0 [] ∧ zqW t a = none) ∨ ∃ i s:Nat,r = .ret [.ptr d (i * 367),.int .i64 (s:Nat),.bool true] ∧ zqW t a = some (i,s))) ?_ ?_
 ·refine zmg (fun j L H'=>L = [.int .i64 (j:Nat)] ∧ Grow H H' ∧ ∀ k,k < j → inS (t k) a = none) 4 ?_ ?_ ?_
  ·exact ⟨rfl,Grow.refl _,fun k hk=>by omega⟩
  ·rintro j _ H1 hj ⟨rfl,s1,hno⟩;have n1:=s1.next;have g1:=(s1.same d hdl).trans hd.blk;obtain ⟨hl,ht⟩:=hd.tb j hj;have d1:decide (((j:Nat):Int) < 4) = true:=decide_eq_true (by omega);have d1':decide (j < 4) = true:=decide_eq_true hj;have hi:∀ {k:IntKind},Ax.iaddr (some 4) 367 (.ptr d 0) (.int k (j:Nat)) = some (.ptr d (j * 367)):=fun {k}=>by
    simp only [Ax.iaddr];rw [if_pos (by omega),Int.toNat_natCast,Nat.zero_add]
   have w1:IntKind.i64.wrap (((j:Nat):Int) + 1) = ((j + 1:Nat):Int):=by rw [wrap_i64 (by omega) (by omega)]; omega
   unfold f_desk_Desk_where_0 uS uF uNF uE uB uI uc ug;simp (disch:=omega) only [↓RD,RZ,d1,d1',hi,g1,hl];refine za8 (zGz ht a) ?_;rintro _ H2 ⟨rfl,s2⟩;have ei:(if zzb (t j) then zxr (t j) a else none) = inS (t j) a:=rfl;rw [ei];unfold fv;cases hf:inS (t j) a with
   | none =>
    simp (disch:=omega) only [↓RD,RZ,w1];refine ⟨s1.trans s2,fun k hk=>?_⟩;by_cases hkk:k < j
    ·exact hno k hkk
    ·have:k = j:=by omega
     subst this;exact hf
   | some s =>
    simp (disch:=omega) only [↓RD,RZ,hi];exact ⟨s1.trans s2,.inr ⟨j,s,rfl,zDz hj hf hno⟩⟩
  ·rintro _ H1 ⟨rfl,s1,hno⟩;unfold f_desk_Desk_where_0 uS uF uNF uE uB uI uc ug;simp (disch:=omega) only [↓RD,RZ];exact ⟨s1,.inl (zDA hno)⟩
 ·rintro _ H1 ⟨s1,⟨rfl,h⟩ | ⟨i,s,rfl,h⟩⟩
  ·rw [h]; simp (disch:=omega) only [↓RD,RZ]; exact ⟨rfl,s1⟩
  ·rw [h]; simp (disch:=omega) only [↓RD,RZ]; exact ⟨rfl,s1⟩
end Go.Ax.SU
/- Dk8 -/
namespace Go.Ax.SU
open Go.Ax
theorem flat_at {α:Type} {k:Nat}:∀ (es:List (List α)),(∀ x ∈ es,x.length = k) → ∀ (i:Nat) (x:List α),es[i]? = some x → (es.flatten.drop (i * k)).take k = x ∧ i * k + k ≤ es.flatten.length:=by
 intro es
 induction es with
 | nil=>intro _ i x h; simp at h
 | cons y es ih =>
  intro h i x hx;have hy:=h y List.mem_cons_self;cases i with
  | zero =>
   simp only [List.getElem?_cons_zero,Option.some.injEq] at hx;subst hx;rw [List.flatten_cons,Nat.zero_mul,List.drop_zero,List.take_left' hy,List.length_append];exact ⟨rfl,by omega⟩
  | succ i =>
   obtain ⟨h1,h2⟩:=ih (fun z hz=>h z (List.mem_cons_of_mem _ hz)) i x (by simpa using hx);have e:(i + 1) * k = k + i * k:=by rw [Nat.succ_mul]; omega
   rw [List.flatten_cons,List.length_append,e,← List.drop_drop,List.drop_left' hy];exact ⟨h1,by omega⟩
theorem flat_len {α:Type} {k:Nat} (es:List (List α)) (h:∀ x ∈ es,x.length = k):es.flatten.length = es.length * k:=by
 induction es with
 | nil=>simp
 | cons x es ih=>rw [List.flatten_cons,List.length_append,ih fun y hy=>h y (List.mem_cons_of_mem _ hy),h x (List.mem_cons_self ..),List.length_cons,Nat.succ_mul]; omega
abbrev tyPo:=ziN
abbrev tyOu:=zbD
structure Ot where
 to':Int
 kind:Int
 b:List Nat
def oC (e:V × Ot):List V:=[.int .i64 e.2.to',.int .i64 e.2.kind,e.1]
theorem oC_len (es:List (V × Ot)):((es.map oC).flatten).length = es.length * 3:=by
 have:=flat_len (k:=3) (es.map oC) fun x hx=>by
  obtain ⟨e,_,rfl⟩:=List.mem_map.1 hx;rfl
 rw [List.length_map] at this;exact this
structure Qm (lo:Nat) (H:Heap) (p:Nat) (es:List (V × Ot)):Prop where
 low:p < lo
 top:lo ≤ H.next
 le:es.length ≤ 32
 mem:∃ lv,H.get p = some ⟨tyPo,[.int .i64 32,lv],none⟩ ∧ App tyOu 3 lo H lv ((es.map oC).flatten) es.length ∧ ∀ e ∈ es,∀ i,e.1.pid = some i → lv.pid ≠ some i
 each:∀ e ∈ es,By lo H e.1 e.2.b
structure FrL (lo p:Nat) (H H':Heap):Prop where
 next:H.next ≤ H'.next
 same:∀ i,i < lo → i ≠ p → H'.get i = H.get i
theorem FrL.refl (lo p:Nat) (H:Heap):FrL lo p H H:=⟨Nat.le_refl _,fun _ _ _=>rfl⟩
theorem FrL.trans {lo p:Nat} {H H1 H2:Heap} (h:FrL lo p H H1) (g:FrL lo p H1 H2):FrL lo p H H2:=⟨Nat.le_trans h.next g.next,fun i hi hp=>(g.same i hi hp).trans (h.same i hi hp)⟩
theorem _root_.Go.Ax.Grow.frL {H H':Heap} (h:Grow H H') {lo:Nat} (p:Nat) (hl:lo ≤ H.next):FrL lo p H H':=⟨h.next,fun i hi _=>h.same i (by omega)⟩
theorem _root_.Go.Ax.App.atS {ty e lo n:Nat} {S:List Nat} {H H':Heap} {v:V} {cells:List V} (h:App ty e lo H v cells n) (s:AtS S H H') (hS:∀ i,v.pid = some i → i ∉ S):App ty e lo H' v cells n:=by
 cases h with
 | opn h ho=>exact .opn (h.to fun i hi=>s.same i (ho i hi).2 (hS i hi)) fun i hi=>⟨(ho i hi).1,Nat.lt_of_lt_of_le (ho i hi).2 s.next⟩
 | lit h h0 h1=>exact .lit ((s.same _ h1 (hS _ rfl)).trans h) h0 (Nat.lt_of_lt_of_le h1 s.next)
theorem _root_.Go.Ax.Step.atS {H H':Heap} {F F':List Nat} (h:Step H H' F F'):AtS F H H':=⟨h.next,h.same⟩
theorem Qm.grow {lo p:Nat} {H H':Heap} {es:List (V × Ot)} (h:Qm lo H p es) (s:Grow H H'):Qm lo H' p es:=by
 obtain ⟨lv,h1,h2,h3⟩:=h.mem;have:=h.low;have:=h.top;exact ⟨h.low,Nat.le_trans h.top s.next,h.le,⟨lv,(s.same p (by omega)).trans h1,h2.atS (Grow.atS s []) (by simp),h3⟩,fun e he=>(h.each e he).ext s⟩
theorem Qm.atS {lo p:Nat} {S:List Nat} {H H':Heap} {es:List (V × Ot)} (h:Qm lo H p es) (s:AtS S H H') (hS:∀ i ∈ S,i < lo ∧ i ≠ p):Qm lo H' p es:=by
 obtain ⟨lv,h1,h2,h3⟩:=h.mem;have h4:=h.low;have h5:=h.top;refine ⟨h.low,Nat.le_trans h.top s.next,h.le,⟨lv,(s.same p (by omega) fun e=>(hS p e).2 rfl).trans h1,h2.atS s fun i hi e=>?_,h3⟩,fun e he=>Lc.atS (h.each e he) s fun i hi e'=>?_⟩
 ·have:=(h2.lc.own i hi).1;have:=(hS i e).1;omega
 ·have:=((h.each e he).own i hi).1;have:=(hS i e').1;omega
theorem Add_p_ok {lo p:Nat} {H:Heap} {es:List (V × Ot)} {bv:V} {o:Ot} (hQ:Qm lo H p es) (hb:By lo H bv o.b) (hsep:∀ lv,H.get p = some ⟨tyPo,[.int .i64 32,lv],none⟩ → ∀ i,bv.pid = some i → lv.pid ≠ some i) :
  Ok (sem T zaH [.ptr p 0,.agg (oC (bv,o))]) H fun r H'=>r = .bool (decide (es.length < 32)) ∧ FrL lo p H H' ∧ Qm lo H' p (if es.length < 32 then es ++ [(bv,o)] else es):=by
 refine zk7 ?_;unfold f_post_Post_desk_Out_Add uL uS uT uNFM uNF uB uO uc;obtain ⟨lv,h1,h2,h3⟩:=hQ.mem;have hlow:=hQ.low;have htop:=hQ.top;have hle:=hQ.le;have vc:=hb.cells1;have vo:=hb.okc;refine zbO (zgV (by simp [oC,V.okc,vo]) ?_);rw [zbI];have s0:=Grow.new H ⟨tyOu,oC (bv,o),none⟩;have g0:(H.new ⟨tyOu,oC (bv,o),none⟩).get H.next = some ⟨tyOu,oC (bv,o),none⟩:=zat _ _;have n0:(H.new ⟨tyOu,oC (bv,o),none⟩).next = H.next + 1:=zaZ _ _;generalize hq:H.next = q at *;generalize H.new _ = H0 at *;have hl:lv.pid ≠ some q:=fun h=>by have:=(h2.lc.own q h).2; omega
 have h10:=(s0.same p (by omega)).trans h1;have hvl:=h2.lc.vlen;by_cases h32:es.length < 32
 ·have d:decide ((32:Int) ≤ ((es.length:Nat):Int)) = false:=decide_eq_false (by omega);have d':decide (32 ≤ es.length) = false:=decide_eq_false (by omega);have l3:ldc (some 3) (oC (bv,o)) 0 = some (.agg (oC (bv,o))):=rfl;rw [decide_eq_true h32,if_pos h32];have s1:=Grow.new H0 ⟨tyOu,oC (bv,o),none⟩;have n1:(H0.new ⟨tyOu,oC (bv,o),none⟩).next = H0.next + 1:=zaZ _ _;have h11:=(s1.same p (by omega)).trans h10;have h21:=(h2.atS (Grow.atS (s0.trans s1) []) (by simp));have hb1:=hb.ext (s0.trans s1);have hya:=zBF (H:=H0) (ty:=tyOu) (o:=none) (cap:=.fix 1) (n:=1) (e:=3) (id:=H0.next) rfl (cs:=oC (bv,o)) rfl;have ef:(if (oC (bv,o)).length = 3 then some (splice [.int .i64 0,.int .i64 0,.nils] 0 (oC (bv,o))) else none) = some (oC (bv,o)):=rfl;have ok3:(V.agg (oC (bv,o))).okc = true:=by simp [oC,V.okc,vo]
  simp (maxSteps:=1000000) (disch:=first | omega | (simp only [RY] <;> omega) | decide) only [↓RD,RZ,eq_self,Int.reduceToNat,Int.reduceAdd,Int.reduceSub,Int.reduceMul,Nat.reduceAdd,Nat.reduceSub,Nat.reduceMul,Nat.reduceDiv,Nat.reduceMod,Nat.reduceBEq,Nat.reduceLeDiff,h10,hvl,d,d',g0,l3,ok3,ef];rw [zhW];generalize H0.new _ = H1 at *;refine zyZ (bytes:=40) h21 (by omega) hya rfl (by omega) (by omega) fun x H2 hx st2=>?_;have n2:=st2.next;have o2:=h2.lc.own;have o3:=hx.lc.own;have ob:=hb.own;have h12:H2.get p = some ⟨tyPo,[.int .i64 32,lv],none⟩:=(st2.same p (by omega) fun e=>by have:=(o2 p (by simpa [zjX] using e)).1; omega).trans h11;have xc:=hx.lc.cells1;have xo:=hx.lc.okc;simp (maxSteps:=1000000) (disch:=first | omega | (simp only [RY] <;> omega) | decide) only [↓RD,RZ,eq_self,Int.reduceToNat,Int.reduceAdd,Int.reduceSub,Int.reduceMul,Nat.reduceAdd,Nat.reduceSub,Nat.reduceMul,Nat.reduceDiv,Nat.reduceMod,Nat.reduceBEq,Nat.reduceLeDiff,h12,xc,xo];have a3:AtS [p] H2 (H2.set p (some ⟨tyPo,[.int .i64 32,x],none⟩)):=AtS.set _ (by simp) _;have hxp:∀ i,x.pid = some i → i ∉ [p]:=fun i hi e=>by
   have:=(o3 i hi).1;simp only [List.mem_singleton] at e;omega
  have hbp:∀ {v:V} {l:List Nat},By lo H v l → (∀ i,v.pid = some i → lv.pid ≠ some i) → By lo (H2.set p (some ⟨tyPo,[.int .i64 32,x],none⟩)) v l:=fun {v l} hv hd=>Lc.atS (Lc.atS (hv.ext (s0.trans s1)) st2.atS fun i hi e=>hd i hi (by simpa [zjX] using e)) a3 fun i hi e=>by
   have:=(hv.own i hi).1;simp only [List.mem_singleton] at e;omega
  refine ⟨⟨by rw [zkN]; omega,fun i hi hp=>?_⟩,⟨hlow,by rw [zkN]; omega,by rw [List.length_append]; show es.length + 1 ≤ 32; omega,⟨x,zc1 _ _ _,?_,fun e he i hi=>?_⟩,fun e he=>?_⟩⟩
  ·rw [zcL _ _ hp,st2.same i (by omega) (fun e=>by have:=(o2 i (by simpa [zjX] using e)).1; omega),s1.same i (by omega),s0.same i (by omega)]
  ·have e:((es ++ [(bv,o)]).map oC).flatten = (es.map oC).flatten ++ oC (bv,o):=by simp
   rw [e,List.length_append];exact hx.atS a3 hxp
  ·intro hxi;have hold:∀ i,e.1.pid = some i → lv.pid ≠ some i ∧ i < H.next:=fun i hi=>by
    rcases List.mem_append.1 he with he | he
    ·exact ⟨h3 e he i hi,((hQ.each e he).own i hi).2⟩
    ·simp only [List.mem_singleton] at he;subst he;exact ⟨hsep lv h1 i hi,(ob i hi).2⟩
   obtain ⟨k1,k2⟩:=hold i hi;rcases st2.own i (by simp [hxi]) with h | h
   ·exact k1 (by simpa [zjX] using h)
   ·omega
  ·rcases List.mem_append.1 he with he | he
   ·exact hbp (hQ.each e he) (h3 e he)
   ·simp only [List.mem_singleton] at he;subst he;exact hbp hb (hsep lv h1)
 ·have d:decide ((32:Int) ≤ ((es.length:Nat):Int)) = true:=decide_eq_true (by omega);have d':decide (32 ≤ es.length) = true:=decide_eq_true (by omega);rw [decide_eq_false h32,if_neg h32];simp (maxSteps:=1000000) (disch:=first | omega | (simp only [RY] <;> omega) | decide) only [↓RD,RZ,eq_self,Int.reduceToNat,Int.reduceAdd,Int.reduceSub,Int.reduceMul,Nat.reduceAdd,Nat.reduceSub,Nat.reduceMul,Nat.reduceDiv,Nat.reduceMod,Nat.reduceBEq,Nat.reduceLeDiff,h10,hvl,d,d'];exact ⟨s0.frL p (by omega),hQ.grow s0⟩
end Go.Ax.SU
/- Dk9 -/
namespace Go.Ax.SU
open Go.Ax
theorem ok_aadd {β:Type} {H:Heap} {id off:Nat} {b:Blk} {n j:Int} {f:V → M β} {Q:β → Heap → Prop} (hb:H.get id = some b) (hc:b.cells[off]? = some (.int .i64 n))
  (k:Ok (f (.int .i64 (IntKind.i64.wrap (n + j)))) (H.set id (some { b with cells:=splice b.cells off [.int .i64 (IntKind.i64.wrap (n + j))] })) Q):Ok ((matoadd .i64 (.ptr id off) (.int .i64 j)).bind f) H Q:=by
 refine zbO ⟨_,_,?_,k⟩;simp only [matoadd,hb,Option.bind_some,hc,if_true]
theorem ok_aload {β:Type} {H:Heap} {id off:Nat} {b:Blk} {n:Int} {f:V → M β} {Q:β → Heap → Prop} (hb:H.get id = some b) (hc:b.cells[off]? = some (.int .i64 n)) (k:Ok (f (.int .i64 n)) H Q):Ok ((matoload .i64 (.ptr id off)).bind f) H Q:=by
 refine zbO ⟨_,_,?_,k⟩;simp only [matoload,mload,hb,Option.bind_some,ldc,hc,Option.map_some,if_true]
def c64 (n:Nat):V:=.int .i64 (n:Nat)
structure Cm (H:Heap) (C cs:Nat) (ns:List Nat):Prop where
 hd:∃ cap,H.get C = some ⟨zkX,[.sl cs 0 11 cap],none⟩
 bd:∃ o,H.get cs = some ⟨zfA,ns.map c64,o⟩
 len:ns.length = 11
 small:∀ n ∈ ns,n < 4611686018427387904
theorem One_ok {H:Heap} {C cs i:Nat} {ns:List Nat} (h:Cm H C cs ns) (hne:C ≠ cs) (hi:i < 11) (hs:ns.getD i 0 + 1 < 4611686018427387904):Ok (sem T zax [.ptr C 0,.int .i64 (i:Nat)]) H fun r H'=>r = .tup [] ∧ AtS [cs] H H' ∧ Cm H' C cs (ns.set i (ns.getD i 0 + 1)):=by
 refine zrk ?_;unfold f_post_Counts_One uL uNFM uB uI uG uH uc;obtain ⟨cap,h1⟩:=h.hd;obtain ⟨o,h2⟩:=h.bd;have hl:=h.len;have d:decide ((0:Int) ≤ ((i:Nat):Int)) = true:=decide_eq_true (by omega);have d2:decide (((i:Nat):Int) < 11) = true:=decide_eq_true (by omega);have d2':decide (i < 11) = true:=decide_eq_true hi;have hv:Ax.vlen (.sl cs 0 11 cap) = some (.int .i64 11):=rfl;have hia:∀ {k:IntKind},Ax.iaddr none 1 (.sl cs 0 11 cap) (.int k (i:Nat)) = some (.ptr cs i):=fun {k}=>by rw [zpa (by omega) (by omega),Int.toNat_natCast,Nat.mul_one,Nat.zero_add]
 have hg:ns[i]? = some (ns.getD i 0):=by rw [List.getD_eq_getElem?_getD,List.getElem?_eq_getElem (by omega)]; rfl
 have hc:(ns.map c64)[i]? = some (.int .i64 (ns.getD i 0:Nat)):=by rw [List.getElem?_map,hg]; rfl
 have w:IntKind.i64.wrap (((ns.getD i 0:Nat):Int) + 1) = ((ns.getD i 0 + 1:Nat):Int):=by rw [wrap_i64 (by omega) (by omega)]; omega
 simp (disch:=omega) only [↓RD,RZ,d,h1,hv,d2,d2',hia];rw [zhW];refine za8 (P:=fun r H'=>H' = H.set cs (some ⟨zfA,(ns.set i (ns.getD i 0 + 1)).map c64,o⟩)) ?_ ?_
 ·refine zlJ ?_;unfold f_sync_atomic_Int64_Add uNF;refine zft rfl ?_;refine zft rfl ?_;refine ok_aadd h2 hc ?_;rw [w];have e:splice (ns.map c64) (i + 0) [.int .i64 (ns.getD i 0 + 1:Nat)] = (ns.set i (ns.getD i 0 + 1)).map c64:=by
   unfold splice;rw [List.map_set,List.set_eq_take_append_cons_drop,if_pos (by rw [List.length_map]; omega),List.append_assoc];rfl
  dsimp only;rw [e];exact znM ⟨_,rfl,rfl⟩
 ·rintro _ _ rfl;simp (disch:=omega) only [↓RD,RZ];have a1:AtS [cs] H (H.set cs (some ⟨zfA,(ns.set i (ns.getD i 0 + 1)).map c64,o⟩)):=AtS.set _ (by simp) _;refine ⟨rfl,a1,⟨⟨cap,(zcL _ _ hne).trans h1⟩,⟨o,zc1 _ _ _⟩,by rw [List.length_set]; exact hl,fun n hn=>?_⟩⟩;rcases List.mem_or_eq_of_mem_set hn with hn | rfl
  ·exact h.small n hn
  ·exact hs
theorem Of_ok {H:Heap} {C cs i:Nat} {ns:List Nat} (h:Cm H C cs ns) (hi:i < 11):Ok (sem T zbw [.ptr C 0,.int .i64 (i:Nat)]) H fun r H'=>r = .int .i64 (ns.getD i 0:Nat) ∧ H' = H:=by
 refine zsX ?_;unfold f_post_Counts_Of uL uNFM uB uI uG uH uc;obtain ⟨cap,h1⟩:=h.hd;obtain ⟨o,h2⟩:=h.bd;have hl:=h.len;have d:decide (((i:Nat):Int) < 0) = false:=decide_eq_false (by omega);have d2:decide ((11:Int) ≤ ((i:Nat):Int)) = false:=decide_eq_false (by omega);have d2':decide (11 ≤ i) = false:=decide_eq_false (by omega);have hv:Ax.vlen (.sl cs 0 11 cap) = some (.int .i64 11):=rfl;have hia:∀ {k:IntKind},Ax.iaddr none 1 (.sl cs 0 11 cap) (.int k (i:Nat)) = some (.ptr cs i):=fun {k}=>by rw [zpa (by omega) (by omega),Int.toNat_natCast,Nat.mul_one,Nat.zero_add]
 have hg:ns[i]? = some (ns.getD i 0):=by rw [List.getD_eq_getElem?_getD,List.getElem?_eq_getElem (by omega)]; rfl
 have hc:(ns.map c64)[i]? = some (.int .i64 (ns.getD i 0:Nat)):=by rw [List.getElem?_map,hg]; rfl
 simp (disch:=omega) only [↓RD,RZ,d,h1,hv,d2,d2',hia];rw [zhW];refine za8 (P:=fun r H'=>r = V.int .i64 (ns.getD i 0:Nat) ∧ H' = H) ?_ ?_
 ·refine zk5 ?_;unfold f_sync_atomic_Int64_Load uNF;refine zft rfl ?_;refine zft rfl ?_;refine ok_aload h2 hc ?_;exact znM ⟨_,rfl,rfl,rfl⟩
 ·rintro _ _ ⟨rfl,rfl⟩;simp (disch:=omega) only [↓RD,RZ]
structure DS (lo:Nat) (H:Heap) (d p C cs a:Nat) (D:List V) (t:Nat → Tb) (es:List (V × Ot)) (ns:List Nat):Prop where
 dk:DkH H d D t
 cm:Cm H C cs ns
 qm:Qm lo H p es
 dl:d < lo
 Cl:C < lo
 cl:cs < lo
 dp:d ≠ p
 Cp:C ≠ p
 cp:cs ≠ p
 dc:d ≠ cs
 Cc:C ≠ cs
 a64:a < 64
 po:D[1470 + a]? = some (.ptr p 0)
 co:D[1534]? = some (.ptr C 0)
theorem DS.grow {lo:Nat} {H H':Heap} {d p C cs a:Nat} {D:List V} {t:Nat → Tb} {es:List (V × Ot)} {ns:List Nat} (h:DS lo H d p C cs a D t es ns) (s:Grow H H'):DS lo H' d p C cs a D t es ns:=by
 have h1:=h.qm.top;have h2:=h.dl;have h3:=h.Cl;have h4:=h.cl;obtain ⟨cap,g1⟩:=h.cm.hd;obtain ⟨o,g2⟩:=h.cm.bd;exact ⟨h.dk.to (s.same d (by omega)),⟨⟨cap,(s.same C (by omega)).trans g1⟩,⟨o,(s.same cs (by omega)).trans g2⟩,h.cm.len,h.cm.small⟩,h.qm.grow s,h.dl,h.Cl,h.cl,h.dp,h.Cp,h.cp,h.dc,h.Cc,h.a64,h.po,h.co⟩
theorem DS.one {lo:Nat} {H H':Heap} {d p C cs a:Nat} {D:List V} {t:Nat → Tb} {es:List (V × Ot)} {ns ns':List Nat} (h:DS lo H d p C cs a D t es ns) (s:AtS [cs] H H') (hc:Cm H' C cs ns'):DS lo H' d p C cs a D t es ns':=by
 have h1:=h.qm.top;have h2:=h.dl;exact ⟨h.dk.to (s.same d (by omega) (by simp; exact h.dc)),hc,h.qm.atS s (fun i hi=>by simp only [List.mem_singleton] at hi; subst hi; exact ⟨h.cl,h.cp⟩),h.dl,h.Cl,h.cl,h.dp,h.Cp,h.cp,h.dc,h.Cc,h.a64,h.po,h.co⟩
theorem DS.post {lo:Nat} {H H':Heap} {d p C cs a:Nat} {D:List V} {t:Nat → Tb} {es es':List (V × Ot)} {ns:List Nat} (h:DS lo H d p C cs a D t es ns) (s:FrL lo p H H') (hq:Qm lo H' p es'):DS lo H' d p C cs a D t es' ns:=by
 obtain ⟨cap,g1⟩:=h.cm.hd;obtain ⟨o,g2⟩:=h.cm.bd;exact ⟨h.dk.to (s.same d h.dl h.dp),⟨⟨cap,(s.same C h.Cl h.Cp).trans g1⟩,⟨o,(s.same cs h.cl h.cp).trans g2⟩,h.cm.len,h.cm.small⟩,hq,h.dl,h.Cl,h.cl,h.dp,h.Cp,h.cp,h.dc,h.Cc,h.a64,h.po,h.co⟩
def zzT (es:List Ot) (o:Ot):List Ot:=if es.length < 32 then es ++ [o] else es
def zzS (es:List Ot) (ns:List Nat):List Nat:=if es.length < 32 then ns else ns.set 10 (ns.getD 10 0 + 1)
theorem tell_ok {lo lb:Nat} {H:Heap} {d p C cs a:Nat} {D:List V} {t:Nat → Tb} {es:List (V × Ot)} {ns:List Nat} {bv:V} {b:List Nat} (h:DS lo H d p C cs a D t es ns) (kind:Int) (hb:By lb H bv b) (hbl:b.length ≤ 1000000) (hs:ns.getD 10 0 + 1 < 4611686018427387904) :
  Ok (sem T za1 [.ptr d 0,.int .i64 (a:Nat),.int .i64 kind,bv]) H fun r H'=>r = .tup [] ∧ H.next ≤ H'.next ∧ ∃ es',DS lo H' d p C cs a D t es' (zzS (es.map (·.2)) ns) ∧ es'.map (·.2) = zzT (es.map (·.2)) ⟨(a:Nat),kind,b⟩:=by
 refine zsY ?_;unfold f_desk_Desk_tell uL uM uNFM uNF uI uU uc;have g:=h.dk.blk;have hpo:=h.po;have hco:=h.co;have ha:=h.a64;have htop:=h.qm.top;have hdl:=h.dl;have hia:∀ {k:IntKind},Ax.iaddr (some 64) 1 (.ptr d 1470) (.int k (a:Nat)) = some (.ptr d (1470 + a)):=fun {k}=>by
  simp only [Ax.iaddr];rw [if_pos (by omega),Int.toNat_natCast,Nat.mul_one]
 simp (maxSteps:=1000000) (disch:=first | omega | (simp only [RY] <;> omega) | decide) only [↓RD,RZ,eq_self,Int.reduceToNat,Int.reduceAdd,Int.reduceSub,Int.reduceMul,Nat.reduceAdd,Nat.reduceSub,Nat.reduceMul,Nat.reduceDiv,Nat.reduceMod,Nat.reduceBEq,Nat.reduceLeDiff,g,hia,hpo];refine za8 (zDo hb (by omega)) ?_;rintro v H1 ⟨hv,s1⟩;have h1:=h.grow s1;have e1:=s1.same d (by omega);have vc:=hv.by.cells1;have vo:=hv.by.okc;simp (maxSteps:=1000000) (disch:=first | omega | (simp only [RY] <;> omega) | decide) only [↓RD,RZ,eq_self,Int.reduceToNat,Int.reduceAdd,Int.reduceSub,Int.reduceMul,Nat.reduceAdd,Nat.reduceSub,Nat.reduceMul,Nat.reduceDiv,Nat.reduceMod,Nat.reduceBEq,Nat.reduceLeDiff,e1,vc,vo];refine za8 (Add_p_ok (o:=⟨(a:Nat),kind,b⟩) h1.qm (hv.by.low htop) fun lv hlv i hi hi'=>?_) ?_
 ·obtain ⟨lv',g1,g2,_⟩:=h.qm.mem;have:lv' = lv:=by
   have:=((s1.same p (by have:=h.qm.low; omega)).trans g1).symm.trans hlv;injection this with this
   injection this with _ this _
   injection this with _ this
   injection this with this _
  subst this;have:=(g2.lc.own i hi').2;have:=(hv.by.own i hi).1;omega
 ·rintro _ H2 ⟨rfl,f2,hq2⟩;have h2:=h1.post f2 hq2;have g2:=h2.dk.blk;have n1:=s1.next;have n2:=f2.next;by_cases hl:es.length < 32
  ·have eE:zzT (es.map (·.2)) ⟨(a:Nat),kind,b⟩ = (es ++ [(v,(⟨(a:Nat),kind,b⟩:Ot))]).map (·.2):=by unfold zzT; rw [List.length_map,if_pos hl,List.map_append]; rfl
   have eN:zzS (es.map (·.2)) ns = ns:=by unfold zzS; rw [List.length_map,if_pos hl]
   rw [decide_eq_true hl];rw [if_pos hl] at h2;rw [eE,eN];simp (maxSteps:=1000000) (disch:=first | omega | (simp only [RY] <;> omega) | decide) only [↓RD,RZ,eq_self,Int.reduceToNat,Int.reduceAdd,Int.reduceSub,Int.reduceMul,Nat.reduceAdd,Nat.reduceSub,Nat.reduceMul,Nat.reduceDiv,Nat.reduceMod,Nat.reduceBEq,Nat.reduceLeDiff];exact ⟨rfl,by omega,_,h2,rfl⟩
  ·have eE:zzT (es.map (·.2)) ⟨(a:Nat),kind,b⟩ = es.map (·.2):=by unfold zzT; rw [List.length_map,if_neg hl]
   have eN:zzS (es.map (·.2)) ns = ns.set 10 (ns.getD 10 0 + 1):=by unfold zzS; rw [List.length_map,if_neg hl]
   rw [decide_eq_false hl];rw [if_neg hl] at h2;rw [eE,eN];simp (maxSteps:=1000000) (disch:=first | omega | (simp only [RY] <;> omega) | decide) only [↓RD,RZ,eq_self,Int.reduceToNat,Int.reduceAdd,Int.reduceSub,Int.reduceMul,Nat.reduceAdd,Nat.reduceSub,Nat.reduceMul,Nat.reduceDiv,Nat.reduceMod,Nat.reduceBEq,Nat.reduceLeDiff,g2,hco];refine za8 (One_ok (i:=10) h2.cm h2.Cc (by decide) hs) ?_;rintro _ H3 ⟨rfl,a3,hc3⟩;have n3:=a3.next;simp (maxSteps:=1000000) (disch:=first | omega | (simp only [RY] <;> omega) | decide) only [↓RD,RZ,eq_self,Int.reduceToNat,Int.reduceAdd,Int.reduceSub,Int.reduceMul,Nat.reduceAdd,Nat.reduceSub,Nat.reduceMul,Nat.reduceDiv,Nat.reduceMod,Nat.reduceBEq,Nat.reduceLeDiff];exact ⟨rfl,by omega,_,h2.one a3 hc3,rfl⟩
end Go.Ax.SU
/- Dk10 -/
namespace Go.Ax.SU
open Go.Ax
def sayE (es:List Ot) (a:Nat) (x:Nt):List Ot:=if zrv x then zzT es ⟨(a:Nat),2,zpL x⟩ else es
def sayN (es:List Ot) (ns:List Nat) (x:Nt):List Nat:=if zrv x then zzS es ns else ns
theorem by2_len (l:List Nat):(l.flatMap by2).length = 2 * l.length:=by
 induction l with
 | nil=>rfl
 | cons a l ih=>rw [List.flatMap_cons,List.length_append,ih,List.length_cons]; simp [by2]; omega
theorem zEE (x:Nt):(zpL x).length = 11 + x.b.length:=by
 unfold zpL;rw [List.length_append,List.length_append,by2_len];rfl
theorem say_ok {lo lb:Nat} {H:Heap} {d p C cs a:Nat} {D:List V} {t:Nat → Tb} {es:List (V × Ot)} {ns:List Nat} {bv:V} {x:Nt} (h:DS lo H d p C cs a D t es ns) (hb:By lb H bv x.b) (hk:Pl3 x) (hs:ns.getD 10 0 + 1 < 4611686018427387904) :
  Ok (sem T zaV [.ptr d 0,.int .i64 (a:Nat),.agg (nC x bv)]) H fun r H'=>r = .tup [] ∧ H.next ≤ H'.next ∧ ∃ es',DS lo H' d p C cs a D t es' (sayN (es.map (·.2)) ns x) ∧ es'.map (·.2) = sayE (es.map (·.2)) a x:=by
 refine zuJ ?_;unfold f_desk_Desk_say uS uE uB uO uc;have vc:=hb.cells1;have vo:=hb.okc;refine zbO (zgV (by simp [nC,V.okc,vo]) ?_);rw [zbI];have s0:=Grow.new H ⟨zag,nC x bv,none⟩;have g0:(H.new ⟨zag,nC x bv,none⟩).get H.next = some ⟨zag,nC x bv,none⟩:=zat _ _;generalize hq:H.next = q at *;generalize H.new _ = H0 at *;have l0:ldc (some 7) (nC x bv) 0 = some (.agg (nC x bv)):=rfl;simp (disch:=omega) only [↓RD,RZ,g0,l0];refine za8 (zET (hb.ext s0) hk) ?_;rintro r1 H1 ⟨s1,⟨hg,rfl⟩ | ⟨hg,v,rfl,hv⟩⟩
 ·have e1:sayE (es.map (·.2)) a x = es.map (·.2):=by unfold sayE; rw [hg]; rfl
  have e2:sayN (es.map (·.2)) ns x = ns:=by unfold sayN; rw [hg]; rfl
  rw [e1,e2];have:=(s0.trans s1).next;simp (disch:=omega) only [↓RD,RZ];exact ⟨rfl,by omega,es,h.grow (s0.trans s1),rfl⟩
 ·have e1:sayE (es.map (·.2)) a x = zzT (es.map (·.2)) ⟨(a:Nat),2,zpL x⟩:=by unfold sayE; rw [hg]; rfl
  have e2:sayN (es.map (·.2)) ns x = zzS (es.map (·.2)) ns:=by unfold sayN; rw [hg]; rfl
  rw [e1,e2];have n1:=(s0.trans s1).next;have hl:=(zFP hg).2.2.2.2.2.2;simp (disch:=omega) only [↓RD,RZ];refine za8 (tell_ok (h.grow (s0.trans s1)) 2 hv.by (by rw [zEE]; omega) hs) ?_;rintro _ H2 ⟨rfl,n2,es',h2,he⟩;simp (disch:=omega) only [↓RD,RZ];exact ⟨rfl,by omega,es',h2,he⟩
def noX (e k:Int):Nt:=⟨18,0,0,0,e,k,[]⟩
theorem no_ok {lo:Nat} {H:Heap} {d p C cs a:Nat} {D:List V} {t:Nat → Tb} {es:List (V × Ot)} {ns:List Nat} (h:DS lo H d p C cs a D t es ns) (e k:Int) (hs:ns.getD 10 0 + 1 < 4611686018427387904) :
  Ok (sem T zbx [.ptr d 0,.int .i64 (a:Nat),.int .i64 e,.int .i64 k]) H fun r H'=>r = .tup [] ∧ H.next ≤ H'.next ∧ ∃ es',DS lo H' d p C cs a D t es' (sayN (es.map (·.2)) ns (noX e k)) ∧ es'.map (·.2) = sayE (es.map (·.2)) a (noX e k):=by
 refine zvM ?_;unfold f_desk_Desk_no uL uc;simp (maxSteps:=1000000) (disch:=first | omega | (simp only [RY] <;> omega) | decide) only [↓RD,RZ,eq_self,Int.reduceToNat,Int.reduceAdd,Int.reduceSub,Int.reduceMul,Nat.reduceAdd,Nat.reduceSub,Nat.reduceMul,Nat.reduceDiv,Nat.reduceMod,Nat.reduceBEq,Nat.reduceLeDiff];refine za8 (say_ok (x:=noX e k) h (Lc.nil:By 0 H .nils []) ⟨by show (18:Int) ≠ 17; decide,by show (18:Int) ≠ 19; decide,by show (18:Int) ≠ 20; decide⟩ hs) ?_;rintro _ H1 ⟨rfl,n1,es',h1,he⟩;simp (maxSteps:=1000000) (disch:=first | omega | (simp only [RY] <;> omega) | decide) only [↓RD,RZ,eq_self,Int.reduceToNat,Int.reduceAdd,Int.reduceSub,Int.reduceMul,Nat.reduceAdd,Nat.reduceSub,Nat.reduceMul,Nat.reduceDiv,Nat.reduceMod,Nat.reduceBEq,Nat.reduceLeDiff];exact ⟨rfl,n1,es',h1,he⟩
theorem zuK {lo lb:Nat} {H:Heap} {d p C cs a:Nat} {D:List V} {t:Nat → Tb} {es:List (V × Ot)} {ns:List Nat} {bv:V} {b:List Nat} (h:DS lo H d p C cs a D t es ns) (hb:By lb H bv b) (b8:Ok8 b) (hl:b.length ≤ 1000000) (hk:Pl3 (rawN b)) (hp:zrj b = 0) (hk9:(rawN b).k ≤ 9) (hk1:(rawN b).k ≠ 1) (hw:zqW t (a:Nat) = none) (hs:ns.getD 10 0 + 1 < 4611686018427387904) :
  Ok (sem T zbk [.ptr d 0,.int .i64 (a:Nat),bv]) H fun r H'=>r = .tup [] ∧ H.next ≤ H'.next ∧ ∃ es',DS lo H' d p C cs a D t es' (sayN (es.map (·.2)) ns (noX 6 (rawN b).k)) ∧ es'.map (·.2) = sayE (es.map (·.2)) a (noX 6 (rawN b).k):=by
 refine zsZ ?_;unfold f_desk_Desk_note uL uS uT uFM uE uB uG uH uO uc ug;refine za8 (zEP hb b8 hl hk) ?_;rintro r1 H1 ⟨s1,⟨he,_⟩ | ⟨_,v,rfl,hv⟩⟩
 ·exact absurd hp he
 refine zft rfl ?_;refine zft rfl ?_;refine zlI rfl rfl fun q H2 eq g2 s2 n2=>?_;have s02:=s1.trans s2;have h2:=h.grow s02;have hdl:=h2.dl;have htop:=h2.qm.top;have d1:decide ((9:Int) < (rawN b).k) = false:=decide_eq_false (by omega);unfold nC at g2;have k1:((rawN b).k == 1) = false:=by simpa using hk1
 simp (disch:=omega) only [↓RD,RZ,g2,d1];refine za8 (where_ok h2.dk (by omega) (a:Nat)) ?_;rintro _ H3 ⟨rfl,s3⟩;rw [hw];have g3:=(s3.same q (by omega)).trans g2;unfold wv;simp (disch:=omega) only [↓RD,RZ,g3,k1];refine za8 (no_ok (h2.grow s3) 6 (rawN b).k hs) ?_;rintro _ H4 ⟨rfl,n4,es',h4,he⟩;have n02:=s02.next;have n3:=s3.next;simp (disch:=omega) only [↓RD,RZ];exact ⟨rfl,by omega,es',h4,he⟩
end Go.Ax.SU
/- Dk11 -/
namespace Go.Ax.SU
open Go.Ax
theorem AtS.setn' {S:List Nat} {H H':Heap} (h:AtS S H H') {q:Nat} (hq:H.next ≤ q) (b:Option Blk):AtS S H (H'.set q b) :=
 ⟨by rw [zkN]; exact h.next,fun i hi hs=>by rw [zcL _ _ (by omega)]; exact h.same i hi hs⟩
theorem zFZ {es:List (V × Ot)} {e:V × Ot} {l:List (V × Ot)} (h:es = e :: l):(((es.map oC).flatten).drop ((0:Int).toNat * 3)).take 3 = oC e:=by
 subst h;rfl
def tkQ (lo p:Nat) (H H':Heap) (lv r:V):List (V × Ot) → Prop
 | []=>r = .tup [.agg [.int .i64 0,.int .i64 0,.nils],.bool false] ∧ H'.get p = H.get p
 | e :: l=>r = .tup [.agg (oC e),.bool true] ∧ ∃ lv',H'.get p = some ⟨tyPo,[.int .i64 32,lv'],none⟩ ∧ Lc 3 lo H lv' ((l.map oC).flatten) l.length ∧ lv'.pid = lv.pid
theorem zBG {lo:Nat} {H:Heap} {p:Nat} {lv:V} {es:List (V × Ot)} (hp:H.get p = some ⟨tyPo,[.int .i64 32,lv],none⟩) (hpl:p < H.next) (hlv:Lc 3 lo H lv ((es.map oC).flatten) es.length) (hlp:lv.pid ≠ some p) (hb:∀ e ∈ es,e.1.cells = [e.1] ∧ e.1.okc = true) :
  Ok (sem T zaB [.ptr p 0]) H fun r H'=>AtS [p] H H' ∧ tkQ lo p H H' lv r es:=by
 refine zkF ?_;unfold f_post_Post_desk_Out_Take uL uS uT uNFM uNF uB uI uO uc;refine zbO (zgV rfl ?_);rw [zbI];have s0:=Grow.new H ⟨tyOu,[.int .i64 0,.int .i64 0,.nils],none⟩;have g0:(H.new ⟨tyOu,[.int .i64 0,.int .i64 0,.nils],none⟩).get H.next = some ⟨tyOu,[.int .i64 0,.int .i64 0,.nils],none⟩:=zat _ _;have n0:(H.new ⟨tyOu,[.int .i64 0,.int .i64 0,.nils],none⟩).next = H.next + 1:=zaZ _ _;generalize hq:H.next = q at *;generalize H.new _ = H0 at *;refine zbO (zgV rfl ?_);rw [zbI];have s1:=Grow.new H0 ⟨tyOu,[.int .i64 0,.int .i64 0,.nils],none⟩;have g1:(H0.new ⟨tyOu,[.int .i64 0,.int .i64 0,.nils],none⟩).get H0.next = some ⟨tyOu,[.int .i64 0,.int .i64 0,.nils],none⟩:=zat _ _;have n1:(H0.new ⟨tyOu,[.int .i64 0,.int .i64 0,.nils],none⟩).next = H0.next + 1:=zaZ _ _;have g01:=(s1.same q (by omega)).trans g0;have hq1:H0.next = q + 1:=n0;rw [hq1] at g1 n1 ⊢;generalize H0.new _ = H1 at *;have s01:=s0.trans s1;have hp1:=(s01.same p (by omega)).trans hp;have hlv1:=hlv.ext s01;have hvl:=hlv1.vlen;cases es with
 | nil =>
  have e0:(((([]:List (V × Ot)).length:Nat):Int) == 0) = true:=rfl;simp (maxSteps:=1000000) (disch:=first | omega | (simp only [RY] <;> omega) | decide) only [↓RD,RZ,eq_self,Int.reduceToNat,Int.reduceAdd,Int.reduceSub,Int.reduceMul,Nat.reduceAdd,Nat.reduceSub,Nat.reduceMul,Nat.reduceDiv,Nat.reduceMod,Nat.reduceBEq,Nat.reduceLeDiff,hp1,hvl,e0,g1,g01];exact ⟨(Grow.atS s01 _).setn' (by omega) _,rfl,by rw [zcL _ _ (by omega)]; exact hp1.trans hp.symm⟩
 | cons e l =>
  have e0:((((e :: l:List (V × Ot)).length:Nat):Int) == 0) = false:=by simp; omega
  have e0':((e :: l:List (V × Ot)).length == 0) = false:=by simp
  obtain ⟨p0,hp0,hl0⟩:=hlv1.at (i:=0) (by omega) (by simp);rw [zFZ rfl] at hl0;have la:=hl0.all;obtain ⟨lv',-,-,hs,hsl,hpid⟩:=hlv.slice (x:=1) (y:=(((e :: l).length:Nat):Int)) (by omega) (by simp only [List.length_cons]; omega) (Int.le_refl _);have hs:=fun {k}=>hs rfl (k:=k);obtain ⟨ec,eo⟩:=hb e List.mem_cons_self;have hol:(oC e).length = 3:=rfl;rw [hol] at la;simp (maxSteps:=1000000) (disch:=first | omega | (simp only [RY] <;> omega) | decide) only [↓RD,RZ,eq_self,Int.reduceToNat,Int.reduceAdd,Int.reduceSub,Int.reduceMul,Nat.reduceAdd,Nat.reduceSub,Nat.reduceMul,Nat.reduceDiv,Nat.reduceMod,Nat.reduceBEq,Nat.reduceLeDiff,hp1,hvl,e0,e0',hp0];rw [zhW];refine okb_ldr la ?_;refine zlI rfl rfl fun q5 H2 e5 g5 s2 n2=>?_;have hp2:=(s2.same p (by omega)).trans hp1;have g02:=(s2.same q (by omega)).trans g01;have l3:ldc (some 3) (oC e) 0 = some (.agg (oC e)):=rfl;have vc':=hsl.cells1;have vo':=hsl.okc;have ok3:(V.agg (oC e)).okc = true:=by simp [oC,V.okc,eo]
  have sp3:splice [.int .i64 0,.int .i64 0,.nils] 0 (oC e) = oC e:=rfl;simp (maxSteps:=1000000) (disch:=first | omega | (simp only [RY] <;> omega) | decide) only [↓RD,RZ,eq_self,Int.reduceToNat,Int.reduceAdd,Int.reduceSub,Int.reduceMul,Nat.reduceAdd,Nat.reduceSub,Nat.reduceMul,Nat.reduceDiv,Nat.reduceMod,Nat.reduceBEq,Nat.reduceLeDiff,hp2,hs,vc',vo',g5,l3,g02,zbI,hol,ok3,sp3];have hll:((((e :: l).length:Nat):Int)).toNat - (1:Int).toNat = l.length:=by rw [Int.toNat_natCast]; rfl
  have hcc:((((e :: l).map oC).flatten).drop ((1:Int).toNat * 3)).take (l.length * 3) = (l.map oC).flatten:=by
   have e1:(((e :: l).map oC).flatten).drop ((1:Int).toNat * 3) = (l.map oC).flatten:=rfl;rw [e1,List.take_of_length_le (by rw [oC_len]; exact Nat.le_refl _)]
  rw [hll,hcc] at hsl;exact ⟨(((Grow.atS (s01.trans s2) _).trans (AtS.set H2 (by simp) _)).setn' (by omega) _),rfl,lv',by rw [zcL _ _ (by omega),zc1],hsl,hpid⟩
structure DT (H:Heap) (d p a:Nat) (D:List V):Prop where
 blk:H.get d = some ⟨tyDk,D,none⟩
 dl:d < H.next
 pl:p < H.next
 dp:d ≠ p
 a64:a < 64
 po:D[1470 + a]? = some (.ptr p 0)
theorem DT.atS {H H':Heap} {d p a:Nat} {D:List V} (h:DT H d p a D) (s:AtS [p] H H'):DT H' d p a D :=
 ⟨(s.same d h.dl (by simp; exact h.dp)).trans h.blk,Nat.lt_of_lt_of_le h.dl s.next,Nat.lt_of_lt_of_le h.pl s.next,h.dp,h.a64,h.po⟩
theorem taken_ok {lo n:Nat} {H:Heap} {d p a:Nat} {D:List V} {lv:V} {es:List (V × Ot)} (h:DT H d p a D) (hp:H.get p = some ⟨tyPo,[.int .i64 32,lv],none⟩) (hlv:Lc 3 lo H lv ((es.map oC).flatten) es.length) (hlp:lv.pid ≠ some p) (hb:∀ e ∈ es,e.1.cells = [e.1] ∧ e.1.okc = true) (hn:n ≤ 32) (hes:es.length ≤ 32) :
  Ok (sem T zba [.ptr d 0,.int .i64 (a:Nat),.int .i64 (n:Nat)]) H fun r H'=>AtS [p] H H' ∧ Lc 3 H.next H' r (((es.take n).map oC).flatten) (es.take n).length ∧ ∃ lv',H'.get p = some ⟨tyPo,[.int .i64 32,lv'],none⟩ ∧ Ax.vlen lv' = some (.int .i64 ((es.drop n).length:Nat)):=by
 refine zrn ?_;unfold f_desk_Desk_taken uc ug;have ha:=h.a64;have hpl:=h.pl;have hia:∀ {k:IntKind},Ax.iaddr (some 64) 1 (.ptr d 1470) (.int k (a:Nat)) = some (.ptr d (1470 + a)):=fun {k}=>by
  simp only [Ax.iaddr];rw [if_pos (by omega),Int.toNat_natCast,Nat.mul_one]
 have hpo:=h.po;simp (maxSteps:=1000000) (disch:=first | omega | (simp only [RY] <;> omega) | decide) only [↓RD,RZ,eq_self,Int.reduceToNat,Int.reduceAdd,Int.reduceSub,Int.reduceMul,Nat.reduceAdd,Nat.reduceSub,Nat.reduceMul,Nat.reduceDiv,Nat.reduceMod,Nat.reduceBEq,Nat.reduceLeDiff];refine zhj (Q:=fun r H'=>∃ w,r = .ex 0 [w] ∧ AtS [p] H H' ∧ App tyOu 3 H.next H' w (((es.take n).map oC).flatten) (es.take n).length ∧ ∃ lv',H'.get p = some ⟨tyPo,[.int .i64 32,lv'],none⟩ ∧ Lc 3 lo H' lv' (((es.drop n).map oC).flatten) (es.drop n).length ∧ lv'.pid = lv.pid) ?_ ?_
 ·refine zmg (fun j L H'=>∃ w,L = [w,.int .i64 (j:Nat)] ∧ AtS [p] H H' ∧ App tyOu 3 H.next H' w (((es.take j).map oC).flatten) (es.take j).length ∧ ∃ lv',H'.get p = some ⟨tyPo,[.int .i64 32,lv'],none⟩ ∧ Lc 3 lo H' lv' (((es.drop j).map oC).flatten) (es.drop j).length ∧ lv'.pid = lv.pid) (min n es.length) ?_ ?_ ?_
  ·exact ⟨.nils,rfl,AtS.refl _ _,App.nil,lv,hp,hlv,rfl⟩
  ·rintro j _ H1 hj ⟨w,rfl,a1,hw,lv1,g1,hl1,hp1⟩;have hjn:j < n:=by omega
   have hje:j < es.length:=by omega
   have d1:decide (((j:Nat):Int) < ((n:Nat):Int)) = true:=decide_eq_true (by omega);have d1':decide (j < n) = true:=decide_eq_true hjn;have n1:=a1.next;have h1:=h.atS a1;have gd:=h1.blk;have hsub:∀ e ∈ es.drop j,e.1.cells = [e.1] ∧ e.1.okc = true:=fun e he=>hb e (List.mem_of_mem_drop he);unfold f_desk_Desk_taken_0 uL uS uT uNF uE uB uIM uO uc ug;simp (maxSteps:=1000000) (disch:=first | omega | (simp only [RY] <;> omega) | decide) only [↓RD,RZ,eq_self,Int.reduceToNat,Int.reduceAdd,Int.reduceSub,Int.reduceMul,Nat.reduceAdd,Nat.reduceSub,Nat.reduceMul,Nat.reduceDiv,Nat.reduceMod,Nat.reduceBEq,Nat.reduceLeDiff,d1,d1',gd,hia,hpo];refine za8 (zBG g1 h1.pl hl1 (by rw [hp1]; exact hlp) hsub) ?_;rintro r2 H2 ⟨a2,hr⟩;have ed:es.drop j = es[j] :: es.drop (j + 1):=List.drop_eq_getElem_cons hje;rw [ed] at hr;obtain ⟨rfl,lv2,g2,hl2,hp2⟩:=hr;have et:es.take (j + 1) = es.take j ++ [es[j]]:=by rw [List.take_add_one,List.getElem?_eq_getElem hje]; rfl
   obtain ⟨ec,eo⟩:=hb _ (List.getElem_mem hje);generalize hej:es[j] = e at *;refine zft rfl ?_;refine zft rfl ?_;have n2:=a2.next;refine zlI rfl rfl fun q3 H3 e3 g3 s3 n3=>?_;have l3:ldc (some 3) (oC e) 0 = some (.agg (oC e)):=rfl;have ok3:(V.agg (oC e)).okc = true:=by simp [oC,V.okc,eo]
   have ef:(if (oC e).length = 3 then some (splice [.int .i64 0,.int .i64 0,.nils] 0 (oC e)) else none) = some (oC e):=rfl;have w1:IntKind.i64.wrap (((j:Nat):Int) + 1) = ((j + 1:Nat):Int):=by rw [wrap_i64 (by omega) (by omega)]; omega
   have a12:=a1.trans a2;have hw2:=hw.atS a2 fun i hi e=>by
    have:=(hw.lc.own i hi).1;simp only [List.mem_singleton] at e;omega
   have s4:=Grow.new H3 ⟨tyOu,oC e,none⟩;have hw4:=hw2.atS (Grow.atS (s3.trans s4) []) (by simp);have hya:=zBF (H:=H3) (ty:=tyOu) (o:=none) (cap:=.fix 1) (n:=1) (e:=3) (id:=H3.next) rfl (cs:=oC e) rfl;have n4:(H3.new ⟨tyOu,oC e,none⟩).next = H3.next + 1:=zaZ _ _;simp (maxSteps:=1000000) (disch:=first | omega | (simp only [RY] <;> omega) | decide) only [↓RD,RZ,eq_self,Int.reduceToNat,Int.reduceAdd,Int.reduceSub,Int.reduceMul,Nat.reduceAdd,Nat.reduceSub,Nat.reduceMul,Nat.reduceDiv,Nat.reduceMod,Nat.reduceBEq,Nat.reduceLeDiff,g3,l3,zbI,ok3,ef];rw [zhW];generalize H3.new _ = H4 at *;have hlt:(es.take j).length ≤ 32:=by rw [List.length_take]; omega
   refine zyZ (bytes:=40) hw4 (by omega) hya rfl (by omega) (by omega) fun x H5 hx st5=>?_;simp (maxSteps:=1000000) (disch:=first | omega | (simp only [RY] <;> omega) | decide) only [↓RD,RZ,eq_self,Int.reduceToNat,Int.reduceAdd,Int.reduceSub,Int.reduceMul,Nat.reduceAdd,Nat.reduceSub,Nat.reduceMul,Nat.reduceDiv,Nat.reduceMod,Nat.reduceBEq,Nat.reduceLeDiff,w1];have n5:=st5.next;have hown:=hw.lc.own;have n3':=s3.next;have a5:AtS [p] H H5:=⟨by omega,fun i hi hip=>by
    rw [st5.same i (by omega) (fun e=>by have:=(hown i (by simpa [zjX] using e)).1; omega),s4.same i (by omega),s3.same i (by omega),a12.same i hi hip]⟩
   have g5:H5.get p = some ⟨tyPo,[.int .i64 32,lv2],none⟩:=by
    rw [st5.same p (by omega) (fun e=>by have:=(hown p (by simpa [zjX] using e)).1; omega),s4.same p (by omega),s3.same p (by omega)];exact g2
   have hl5:Lc 3 lo H5 lv2 (((es.drop (j + 1)).map oC).flatten) (es.drop (j + 1)).length:=by
    refine Lc.atS ((Lc.atS hl2 a2 fun i hi e=>?_).ext (s3.trans s4)) st5.atS fun i hi e=>?_
    ·simp only [List.mem_singleton] at e;subst e;exact hlp (hp1 ▸ hp2 ▸ hi)
    ·have h1:=(hown i (by simpa [zjX] using e)).1;have h2:=(hlv.own i (hp1 ▸ hp2 ▸ hi)).2;omega
   refine ⟨x,rfl,a5,?_,lv2,g5,hl5,hp2.trans hp1⟩;have e1:(((es.take (j + 1)).map oC).flatten) = (((es.take j).map oC).flatten) ++ oC e:=by rw [et]; simp
   have e2:(es.take (j + 1)).length = (es.take j).length + 1:=by rw [et]; simp
   rw [e1,e2];exact hx
  ·rintro _ H1 ⟨w,rfl,a1,hw,lv1,g1,hl1,hp1⟩;have h1:=h.atS a1;have gd:=h1.blk;unfold f_desk_Desk_taken_0 uL uS uT uNF uE uB uIM uO uc ug;by_cases hne:n ≤ es.length
   ·have em:min n es.length = n:=Nat.min_eq_left hne;rw [em] at hw hl1 ⊢;have d1:decide (((n:Nat):Int) < ((n:Nat):Int)) = false:=decide_eq_false (by omega);have d1':decide (n < n) = false:=decide_eq_false (by omega);simp (maxSteps:=1000000) (disch:=first | omega | (simp only [RY] <;> omega) | decide) only [↓RD,RZ,eq_self,Int.reduceToNat,Int.reduceAdd,Int.reduceSub,Int.reduceMul,Nat.reduceAdd,Nat.reduceSub,Nat.reduceMul,Nat.reduceDiv,Nat.reduceMod,Nat.reduceBEq,Nat.reduceLeDiff,d1,d1'];exact ⟨w,rfl,a1,hw,lv1,g1,hl1,hp1⟩
   ·have em:min n es.length = es.length:=Nat.min_eq_right (by omega);rw [em] at hw hl1 ⊢;have d1:decide (((es.length:Nat):Int) < ((n:Nat):Int)) = true:=decide_eq_true (by omega);have d1':decide (es.length < n) = true:=decide_eq_true (by omega);have ed:es.drop es.length = []:=List.drop_of_length_le (Nat.le_refl _);have et:es.take n = es:=List.take_of_length_le (by omega);have et':es.take es.length = es:=List.take_of_length_le (Nat.le_refl _);have edn:es.drop n = []:=List.drop_of_length_le (by omega);rw [ed] at hl1;rw [et'] at hw;simp (maxSteps:=1000000) (disch:=first | omega | (simp only [RY] <;> omega) | decide) only [↓RD,RZ,eq_self,Int.reduceToNat,Int.reduceAdd,Int.reduceSub,Int.reduceMul,Nat.reduceAdd,Nat.reduceSub,Nat.reduceMul,Nat.reduceDiv,Nat.reduceMod,Nat.reduceBEq,Nat.reduceLeDiff,d1,d1',gd,hia,hpo];refine za8 (zBG g1 h1.pl hl1 (by rw [hp1]; exact hlp) (by simp)) ?_;rintro r2 H2 ⟨a2,hr⟩;obtain ⟨rfl,g2⟩:=hr;have n2:=a2.next;have n1:=a1.next;refine zft rfl ?_;refine zft rfl ?_;refine zlI rfl rfl fun q3 H3 e3 g3 s3 n3=>?_;simp (maxSteps:=1000000) (disch:=first | omega | (simp only [RY] <;> omega) | decide) only [↓RD,RZ,eq_self,Int.reduceToNat,Int.reduceAdd,Int.reduceSub,Int.reduceMul,Nat.reduceAdd,Nat.reduceSub,Nat.reduceMul,Nat.reduceDiv,Nat.reduceMod,Nat.reduceBEq,Nat.reduceLeDiff];have hw2:=hw.atS a2 fun i hi e=>by
     have:=(hw.lc.own i hi).1;have:=h.pl;simp only [List.mem_singleton] at e;omega
    refine ⟨w,rfl,(a1.trans a2).trans (Grow.atS s3 _),?_,lv1,(s3.same p (by have:=h.pl; omega)).trans (g2.trans g1),?_,hp1⟩
    ·rw [et]; exact hw2.atS (Grow.atS s3 []) (by simp)
    ·rw [edn];refine (Lc.atS hl1 a2 fun i hi e=>?_).ext s3;simp only [List.mem_singleton] at e;subst e;exact hlp (hp1 ▸ hi)
 ·rintro _ H1 ⟨w,rfl,a1,hw,lv1,g1,hl1,hp1⟩;simp (maxSteps:=1000000) (disch:=first | omega | (simp only [RY] <;> omega) | decide) only [↓RD,RZ,eq_self,Int.reduceToNat,Int.reduceAdd,Int.reduceSub,Int.reduceMul,Nat.reduceAdd,Nat.reduceSub,Nat.reduceMul,Nat.reduceDiv,Nat.reduceMod,Nat.reduceBEq,Nat.reduceLeDiff];exact ⟨a1,hw.lc,lv1,g1,hl1.vlen⟩
end Go.Ax.SU
/- Dk12 -/
namespace Go.Ax.SU
open Go.Ax
theorem zER {H:Heap} {d a:Nat} {bv:V} (n:Int) {Q:Heap → Prop} (ha:a < 64) (vc:bv.cells = [bv]) (vo:bv.okc = true)
  (h:∀ H1,Grow H H1 → Ok (sem T zbk [.ptr d 0,.int .i64 (a:Nat),bv]) H1 fun r H'=>r = .tup [] ∧ Q H') :
  Ok (sem T zaY [.ptr d 0,.agg [.int .i64 2,.int .i64 (a:Nat),.int .i64 n,bv]]) H fun r H'=>r = .tup [.nils,.int .i64 0] ∧ Q H':=by
 refine znP ?_;unfold f_desk_Desk_Do uL uT uFM uNFM uNF uB uG uH uO uc;refine zbO (zgV (by simp [V.okc,vo]) ?_);rw [zbI];have s0:=Grow.new H ⟨zd4,[.int .i64 2,.int .i64 (a:Nat),.int .i64 n,bv],none⟩;have g0:(H.new ⟨zd4,[.int .i64 2,.int .i64 (a:Nat),.int .i64 n,bv],none⟩).get H.next = some ⟨zd4,[.int .i64 2,.int .i64 (a:Nat),.int .i64 n,bv],none⟩:=zat _ _;generalize hq:H.next = q at *;generalize H.new _ = H0 at *;have w:=@zbY _ _ _ _ (@zwP H0 (a:Nat));have e:(decide ((0:Int) ≤ ((a:Nat):Int)) && decide (((a:Nat):Int) ≤ 63)) = true:=by
  rw [decide_eq_true (by omega),decide_eq_true (by omega)]; rfl
 rw [e] at w;simp (disch:=omega) only [↓RD,RZ,g0,w];refine za8 (h H0 s0) ?_;rintro _ H1 ⟨rfl,hq⟩;simp (disch:=omega) only [↓RD,RZ];exact hq
theorem zEQ {H:Heap} {d a n:Nat} {bv:V} {Q:V → Heap → Prop} (ha:a < 64) (hn:n ≤ 32) (vc:bv.cells = [bv]) (vo:bv.okc = true)
  (h:∀ H1,Grow H H1 → Ok (sem T zba [.ptr d 0,.int .i64 (a:Nat),.int .i64 (n:Nat)]) H1 Q) :
  Ok (sem T zaY [.ptr d 0,.agg [.int .i64 5,.int .i64 (a:Nat),.int .i64 (n:Nat),bv]]) H fun r H'=>∃ v,r = .tup [v,.int .i64 0] ∧ Q v H':=by
 refine znP ?_;unfold f_desk_Desk_Do uL uT uFM uNFM uNF uB uG uH uO uc;refine zbO (zgV (by simp [V.okc,vo]) ?_);rw [zbI];have s0:=Grow.new H ⟨zd4,[.int .i64 5,.int .i64 (a:Nat),.int .i64 (n:Nat),bv],none⟩;have g0:(H.new ⟨zd4,[.int .i64 5,.int .i64 (a:Nat),.int .i64 (n:Nat),bv],none⟩).get H.next = some ⟨zd4,[.int .i64 5,.int .i64 (a:Nat),.int .i64 (n:Nat),bv],none⟩:=zat _ _;generalize hq:H.next = q at *;generalize H.new _ = H0 at *;have w:=@zbY _ _ _ _ (@zwP H0 (a:Nat));have e:(decide ((0:Int) ≤ ((a:Nat):Int)) && decide (((a:Nat):Int) ≤ 63)) = true:=by
  rw [decide_eq_true (by omega),decide_eq_true (by omega)]; rfl
 rw [e] at w;have d1:decide (((n:Nat):Int) < 0) = false:=decide_eq_false (by omega);have d2:decide ((32:Int) < ((n:Nat):Int)) = false:=decide_eq_false (by omega);have d2':decide (32 < n) = false:=decide_eq_false (by omega);simp (disch:=omega) only [↓RD,RZ,g0,w,d1,d2,d2'];refine za8 (h H0 s0) ?_;intro v H1 hq;simp (disch:=omega) only [↓RD,RZ];exact ⟨v,rfl,hq⟩
theorem zDu {H:Heap} {d p a n:Nat} {D:List V} {lv:V} (h:DT H d p a D) (hp:H.get p = some ⟨tyPo,[.int .i64 32,lv],none⟩) (hl:Ax.vlen lv = some (.int .i64 (n:Nat))) :
  Ok (sem T zaU [.ptr d 0,.int .i64 (a:Nat)]) H fun r H'=>r = .int .i64 (n:Nat) ∧ H' = H:=by
 refine zro ?_;unfold f_desk_Desk_Waits uL uNF uIM uc;have ha:=h.a64;have w:=@zbY _ _ _ _ (@zwP H (a:Nat));have e:(decide ((0:Int) ≤ ((a:Nat):Int)) && decide (((a:Nat):Int) ≤ 63)) = true:=by
  rw [decide_eq_true (by omega),decide_eq_true (by omega)]; rfl
 rw [e] at w;have hia:∀ {k:IntKind},Ax.iaddr (some 64) 1 (.ptr d 1470) (.int k (a:Nat)) = some (.ptr d (1470 + a)):=fun {k}=>by
  simp only [Ax.iaddr];rw [if_pos (by omega),Int.toNat_natCast,Nat.mul_one]
 have hpo:=h.po;have gd:=h.blk;simp (disch:=omega) only [↓RD,RZ,w,gd,hia,hpo];refine za8 (P:=fun r H'=>r = V.int .i64 (n:Nat) ∧ H' = H) ?_ ?_
 ·refine zk6 ?_;unfold f_post_Post_desk_Out_Len uL uNFM;simp (disch:=omega) only [↓RD,RZ,hp,hl]
 ·rintro _ _ ⟨rfl,rfl⟩;simp (disch:=omega) only [↓RD,RZ]
theorem Count_ok {lo:Nat} {H:Heap} {d p C cs a i:Nat} {D:List V} {t:Nat → Tb} {es:List (V × Ot)} {ns:List Nat} (h:DS lo H d p C cs a D t es ns) (hi:i < 11) :
  Ok (sem T zbb [.ptr d 0,.int .i64 (i:Nat)]) H fun r H'=>r = .int .i64 (ns.getD i 0:Nat) ∧ H' = H:=by
 refine zrp ?_;unfold f_desk_Desk_Count uNFM;have gd:=h.dk.blk;have hco:=h.co;have w:=@zbY _ _ _ _ (Of_ok h.cm hi);simp (disch:=omega) only [↓RD,RZ,gd,hco,w]
theorem DS.dt {lo:Nat} {H:Heap} {d p C cs a:Nat} {D:List V} {t:Nat → Tb} {es:List (V × Ot)} {ns:List Nat} (h:DS lo H d p C cs a D t es ns):DT H d p a D:=by
 have:=h.qm.top;have:=h.dl;have:=h.qm.low;exact ⟨h.dk.blk,by omega,by omega,h.dp,h.a64,h.po⟩
end Go.Ax.SU
/- Dk13 -/
namespace Go.Ax.SU
open Go.Ax
def txt (l:List Nat):V:=.str ⟨(l.map UInt8.ofNat).toArray⟩
theorem txt_len (l:List Nat):Ax.slen (txt l) = some (.int .i64 (l.length:Nat)):=by
 unfold txt;simp only [Ax.slen,ByteArray.size,List.size_toArray,List.length_map]
theorem txt_at {l:List Nat} (h:Ok8 l) {i:Nat} (hi:i < l.length):Ax.sindex (txt l) (.int .i64 (i:Nat)) = some (.int .u8 (l.getD i 0:Nat)):=by
 have hg:l.getD i 0 = l[i]:=by rw [List.getD_eq_getElem?_getD,List.getElem?_eq_getElem hi]; rfl
 have h8:l[i] < 256:=h _ (List.getElem_mem hi);unfold txt;simp only [Ax.sindex,Int.toNat_natCast];rw [if_pos (by omega)];have:(⟨(l.map UInt8.ofNat).toArray⟩:ByteArray)[i]? = some (UInt8.ofNat l[i]):=by
  rw [getElem?_pos _ _ (by simp [ByteArray.size]; exact hi)];simp [ByteArray.getElem_eq_getElem_data]
 rw [this,hg];simp only [Option.map_some,UInt8.toNat_ofNat',Option.some.injEq];rw [Nat.mod_eq_of_lt (by simpa using h8)]
theorem zhM {H:Heap} {l:List Nat} {c:Nat} (h:Ok8 l) (hl:l.length ≤ 1000):Ok (sem T zae [txt l,.int .u8 (c:Nat)]) H fun r H'=>r = .bool (l.contains c) ∧ H' = H:=by
 refine znO ?_;unfold f_palanquinref16_has uc;have hsl:=txt_len l;simp (disch:=omega) only [↓RD,RZ];refine zhj (Q:=fun r H'=>H' = H ∧ ((r = .ex 0 [] ∧ l.contains c = false) ∨ (r = .ret [.bool true] ∧ l.contains c = true))) ?_ ?_
 ·refine zmg (fun j L H'=>L = [.int .i64 (j:Nat)] ∧ H' = H ∧ ∀ k (hk:k < l.length),k < j → l[k] ≠ c) l.length ?_ ?_ ?_
  ·exact ⟨rfl,rfl,fun k _ hk=>by omega⟩
  ·rintro j _ H1 hj ⟨rfl,rfl,hno⟩;have d1:decide (((j:Nat):Int) < ((l.length:Nat):Int)) = true:=decide_eq_true (by omega);have d1':decide (j < l.length) = true:=decide_eq_true hj;have hx:=txt_at h hj;have hg:l.getD j 0 = l[j]:=by rw [List.getD_eq_getElem?_getD,List.getElem?_eq_getElem hj]; rfl
   rw [hg] at hx;have w1:IntKind.i64.wrap (((j:Nat):Int) + 1) = ((j + 1:Nat):Int):=by rw [wrap_i64 (by omega) (by omega)]; omega
   unfold f_palanquinref16_has_0 uL uB uc ug;by_cases hc:l[j] = c
   ·have b1:(((l[j]:Nat):Int) == ((c:Nat):Int)) = true:=by rw [hc]; simp
    have b1':(l[j] == c) = true:=by simpa using hc
    simp (disch:=omega) only [↓RD,RZ,hsl,d1,d1',hx,b1,b1'];exact .inr (by rw [List.contains_iff_mem,← hc]; exact List.getElem_mem hj)
   ·have b1:(((l[j]:Nat):Int) == ((c:Nat):Int)) = false:=by simp; omega
    have b1':(l[j] == c) = false:=by simpa using hc
    simp (disch:=omega) only [↓RD,RZ,hsl,d1,d1',hx,b1,b1',w1];intro k hk hkj;by_cases hkk:k < j
    ·exact hno k hk hkk
    ·have:k = j:=by omega
     subst this;exact hc
  ·rintro _ H1 ⟨rfl,rfl,hno⟩;have d1:decide (((l.length:Nat):Int) < ((l.length:Nat):Int)) = false:=decide_eq_false (by omega);have d1':decide (l.length < l.length) = false:=decide_eq_false (by omega);unfold f_palanquinref16_has_0 uL uB uc ug;simp (disch:=omega) only [↓RD,RZ,hsl,d1,d1'];refine .inl ?_;cases hh:l.contains c with
   | false=>rfl
   | true =>
    rw [List.contains_iff_mem] at hh;obtain ⟨k,hk,e⟩:=List.mem_iff_getElem.1 hh;exact absurd e (hno k hk hk)
 ·rintro _ H1 ⟨rfl,⟨rfl,h⟩ | ⟨rfl,h⟩⟩
  ·rw [h]; simp (disch:=omega) only [↓RD,RZ]
  ·rw [h]; simp (disch:=omega) only [↓RD,RZ]
theorem in_ok {H:Heap} (x lo hi:Int):Ok (sem T zah [.int .i64 x,.int .i64 lo,.int .i64 hi]) H fun r H'=>r = .bool (decide (lo ≤ x) && decide (x ≤ hi)) ∧ H' = H:=by
 refine zpq ?_;unfold f_palanquinref16_in uL uB uG uH;by_cases h:lo ≤ x
 ·have d:decide (lo ≤ x) = true:=decide_eq_true h;simp (disch:=omega) only [↓RD,RZ,d,Bool.true_and]
 ·have d:decide (lo ≤ x) = false:=decide_eq_false h;simp (disch:=omega) only [↓RD,RZ,d,Bool.false_and]
theorem fields2 {H:Heap}:Ok (sem T zas [.int .i64 2]) H fun r H'=>r = txt [45] ∧ H' = H:=by
 refine zem ?_;unfold f_palanquinref16_fields uB uc ug;simp (disch:=omega) only [↓RD,RZ];rfl
theorem fields3 {H:Heap}:Ok (sem T zas [.int .i64 3]) H fun r H'=>r = txt [115] ∧ H' = H:=by
 refine zem ?_;unfold f_palanquinref16_fields uB uc ug;simp (disch:=omega) only [↓RD,RZ];rfl
theorem fields18 {H:Heap}:Ok (sem T zas [.int .i64 18]) H fun r H'=>r = txt [110,109] ∧ H' = H:=by
 refine zem ?_;unfold f_palanquinref16_fields uB uc ug;simp (disch:=omega) only [↓RD,RZ];rfl
end Go.Ax.SU
/- Dk14 -/
namespace Go.Ax.SU
open Go.Ax
theorem zE0 {l:List Nat} (h:Ok8 l) (hl:l ≠ []):Ax.bin .eql (txt l) (.str ⟨#[]⟩) = some (.bool false):=by
 have e:=bytes_eq (a:=l) (b:=[]) h (by simp);rw [decide_eq_false hl] at e;unfold txt;simp only [Ax.bin];exact congrArg (fun x=>some (V.bool x)) e
theorem good_r2 {lo:Nat} {H:Heap}  {bv:V} (hb:By lo H bv []):Ok (sem T zak [.agg (nC ⟨2,0,0,0,0,0,[]⟩ bv)]) H fun r H'=>r = .bool true ∧ Grow H H':=by
 refine zfi ?_;unfold f_palanquinref16_Good uL uFM uB uG uH uO uc ub ug;have vc:=hb.cells1;have vo:=hb.okc;refine zbO (zgV (by simp [nC,V.okc,vo]) ?_);rw [zbI];have s0:=Grow.new H ⟨zad,nC ⟨2,0,0,0,0,0,[]⟩ bv,none⟩;have g0:(H.new ⟨zad,nC ⟨2,0,0,0,0,0,[]⟩ bv,none⟩).get H.next = some ⟨zad,nC ⟨2,0,0,0,0,0,[]⟩ bv,none⟩:=zat _ _;have n0:(H.new ⟨zad,nC ⟨2,0,0,0,0,0,[]⟩ bv,none⟩).next = H.next + 1:=zaZ _ _;generalize hq:H.next = q at *;generalize H.new _ = H1 at *;unfold nC at g0
 skip
 dsimp only at g0;have bl:=(hb.ext s0).vlen;have f1:=@zbY _ _ _ _ (@fields2 H1);have wi:∀ {x lo hi:Int} {f:V → M Res} {Q:Res → Heap → Prop},lo ≤ x → x ≤ hi → (@OkB V Res (sem T zah [.int .i64 x,.int .i64 lo,.int .i64 hi]) H1 ⟨f⟩ ⟨Q⟩ ↔ Ok (f (.bool true)) H1 Q):=fun {x lo hi f Q} h1 h2=>by
  have:=@zbY _ _ _ _ (@in_ok H1 x lo hi);rw [decide_eq_true h1,decide_eq_true h2] at this;exact this
 have es:Ax.bin .eql (txt [45]) (.str ⟨#[]⟩) = some (.bool false):=zE0 (l:=[45]) (all8 rfl) (by decide);have h114:=@zbY _ _ _ _ (show Ok (sem T zae [txt [45],.int .u8 114]) H1 (fun r H'=>r = .bool false ∧ H' = H1) from zhM (l:=[45]) (c:=114) (all8 rfl) (by decide));have h115:=@zbY _ _ _ _ (show Ok (sem T zae [txt [45],.int .u8 115]) H1 (fun r H'=>r = .bool false ∧ H' = H1) from zhM (l:=[45]) (c:=115) (all8 rfl) (by decide));have h101:=@zbY _ _ _ _ (show Ok (sem T zae [txt [45],.int .u8 101]) H1 (fun r H'=>r = .bool false ∧ H' = H1) from zhM (l:=[45]) (c:=101) (all8 rfl) (by decide));have h110:=@zbY _ _ _ _ (show Ok (sem T zae [txt [45],.int .u8 110]) H1 (fun r H'=>r = .bool false ∧ H' = H1) from zhM (l:=[45]) (c:=110) (all8 rfl) (by decide));have h109:=@zbY _ _ _ _ (show Ok (sem T zae [txt [45],.int .u8 109]) H1 (fun r H'=>r = .bool false ∧ H' = H1) from zhM (l:=[45]) (c:=109) (all8 rfl) (by decide));have h98:=@zbY _ _ _ _ (show Ok (sem T zae [txt [45],.int .u8 98]) H1 (fun r H'=>r = .bool false ∧ H' = H1) from zhM (l:=[45]) (c:=98) (all8 rfl) (by decide));simp (disch:=first | omega | (simp only [RY] <;> omega) | decide) only [↓RD,RZ,Nat.reduceAdd,g0,f1,wi,es,h114,h115,h101,h110,h109,h98,bl];exact s0
theorem good_r3 {lo:Nat} {H:Heap}  {bv:V} (hb:By lo H bv []):Ok (sem T zak [.agg (nC ⟨3,0,1,0,0,0,[]⟩ bv)]) H fun r H'=>r = .bool true ∧ Grow H H':=by
 refine zfi ?_;unfold f_palanquinref16_Good uL uFM uB uG uH uO uc ub ug;have vc:=hb.cells1;have vo:=hb.okc;refine zbO (zgV (by simp [nC,V.okc,vo]) ?_);rw [zbI];have s0:=Grow.new H ⟨zad,nC ⟨3,0,1,0,0,0,[]⟩ bv,none⟩;have g0:(H.new ⟨zad,nC ⟨3,0,1,0,0,0,[]⟩ bv,none⟩).get H.next = some ⟨zad,nC ⟨3,0,1,0,0,0,[]⟩ bv,none⟩:=zat _ _;have n0:(H.new ⟨zad,nC ⟨3,0,1,0,0,0,[]⟩ bv,none⟩).next = H.next + 1:=zaZ _ _;generalize hq:H.next = q at *;generalize H.new _ = H1 at *;unfold nC at g0
 skip
 dsimp only at g0;have bl:=(hb.ext s0).vlen;have f1:=@zbY _ _ _ _ (@fields3 H1);have wi:∀ {x lo hi:Int} {f:V → M Res} {Q:Res → Heap → Prop},lo ≤ x → x ≤ hi → (@OkB V Res (sem T zah [.int .i64 x,.int .i64 lo,.int .i64 hi]) H1 ⟨f⟩ ⟨Q⟩ ↔ Ok (f (.bool true)) H1 Q):=fun {x lo hi f Q} h1 h2=>by
  have:=@zbY _ _ _ _ (@in_ok H1 x lo hi);rw [decide_eq_true h1,decide_eq_true h2] at this;exact this
 have es:Ax.bin .eql (txt [115]) (.str ⟨#[]⟩) = some (.bool false):=zE0 (l:=[115]) (all8 rfl) (by decide);have h114:=@zbY _ _ _ _ (show Ok (sem T zae [txt [115],.int .u8 114]) H1 (fun r H'=>r = .bool false ∧ H' = H1) from zhM (l:=[115]) (c:=114) (all8 rfl) (by decide));have h115:=@zbY _ _ _ _ (show Ok (sem T zae [txt [115],.int .u8 115]) H1 (fun r H'=>r = .bool true ∧ H' = H1) from zhM (l:=[115]) (c:=115) (all8 rfl) (by decide));have h101:=@zbY _ _ _ _ (show Ok (sem T zae [txt [115],.int .u8 101]) H1 (fun r H'=>r = .bool false ∧ H' = H1) from zhM (l:=[115]) (c:=101) (all8 rfl) (by decide));have h110:=@zbY _ _ _ _ (show Ok (sem T zae [txt [115],.int .u8 110]) H1 (fun r H'=>r = .bool false ∧ H' = H1) from zhM (l:=[115]) (c:=110) (all8 rfl) (by decide));have h109:=@zbY _ _ _ _ (show Ok (sem T zae [txt [115],.int .u8 109]) H1 (fun r H'=>r = .bool false ∧ H' = H1) from zhM (l:=[115]) (c:=109) (all8 rfl) (by decide));have h98:=@zbY _ _ _ _ (show Ok (sem T zae [txt [115],.int .u8 98]) H1 (fun r H'=>r = .bool false ∧ H' = H1) from zhM (l:=[115]) (c:=98) (all8 rfl) (by decide));simp (disch:=first | omega | (simp only [RY] <;> omega) | decide) only [↓RD,RZ,Nat.reduceAdd,g0,f1,wi,es,h114,h115,h101,h110,h109,h98,bl];exact s0
theorem good_r18 {lo:Nat} {H:Heap} {m:Int} (hm:2 ≤ m ∧ m ≤ 3) {bv:V} (hb:By lo H bv []):Ok (sem T zak [.agg (nC (noX 6 m) bv)]) H fun r H'=>r = .bool true ∧ Grow H H':=by
 refine zfi ?_;unfold f_palanquinref16_Good uL uFM uB uG uH uO uc ub ug;have d9:decide (m ≤ 9) = true:=decide_eq_true (by omega);obtain ⟨hm1,hm2⟩:=hm;have vc:=hb.cells1;have vo:=hb.okc;refine zbO (zgV (by simp [nC,V.okc,vo]) ?_);rw [zbI];have s0:=Grow.new H ⟨zad,nC (noX 6 m) bv,none⟩;have g0:(H.new ⟨zad,nC (noX 6 m) bv,none⟩).get H.next = some ⟨zad,nC (noX 6 m) bv,none⟩:=zat _ _;have n0:(H.new ⟨zad,nC (noX 6 m) bv,none⟩).next = H.next + 1:=zaZ _ _;generalize hq:H.next = q at *;generalize H.new _ = H1 at *;unfold nC at g0;unfold noX at g0;dsimp only at g0;have bl:=(hb.ext s0).vlen;have f1:=@zbY _ _ _ _ (@fields18 H1);have wi:∀ {x lo hi:Int} {f:V → M Res} {Q:Res → Heap → Prop},lo ≤ x → x ≤ hi → (@OkB V Res (sem T zah [.int .i64 x,.int .i64 lo,.int .i64 hi]) H1 ⟨f⟩ ⟨Q⟩ ↔ Ok (f (.bool true)) H1 Q):=fun {x lo hi f Q} h1 h2=>by
  have:=@zbY _ _ _ _ (@in_ok H1 x lo hi);rw [decide_eq_true h1,decide_eq_true h2] at this;exact this
 have es:Ax.bin .eql (txt [110,109]) (.str ⟨#[]⟩) = some (.bool false):=zE0 (l:=[110,109]) (all8 rfl) (by decide);have h114:=@zbY _ _ _ _ (show Ok (sem T zae [txt [110,109],.int .u8 114]) H1 (fun r H'=>r = .bool false ∧ H' = H1) from zhM (l:=[110,109]) (c:=114) (all8 rfl) (by decide));have h115:=@zbY _ _ _ _ (show Ok (sem T zae [txt [110,109],.int .u8 115]) H1 (fun r H'=>r = .bool false ∧ H' = H1) from zhM (l:=[110,109]) (c:=115) (all8 rfl) (by decide));have h101:=@zbY _ _ _ _ (show Ok (sem T zae [txt [110,109],.int .u8 101]) H1 (fun r H'=>r = .bool false ∧ H' = H1) from zhM (l:=[110,109]) (c:=101) (all8 rfl) (by decide));have h110:=@zbY _ _ _ _ (show Ok (sem T zae [txt [110,109],.int .u8 110]) H1 (fun r H'=>r = .bool true ∧ H' = H1) from zhM (l:=[110,109]) (c:=110) (all8 rfl) (by decide));have h109:=@zbY _ _ _ _ (show Ok (sem T zae [txt [110,109],.int .u8 109]) H1 (fun r H'=>r = .bool true ∧ H' = H1) from zhM (l:=[110,109]) (c:=109) (all8 rfl) (by decide));have h98:=@zbY _ _ _ _ (show Ok (sem T zae [txt [110,109],.int .u8 98]) H1 (fun r H'=>r = .bool false ∧ H' = H1) from zhM (l:=[110,109]) (c:=98) (all8 rfl) (by decide));simp (disch:=first | omega | (simp only [RY] <;> omega) | decide) only [↓RD,RZ,Nat.reduceAdd,g0,f1,wi,es,h114,h115,h101,h110,h109,h98,bl,d9];exact s0
end Go.Ax.SU
/- Dk15 -/
namespace Go.Ax.SU
open Go.Ax
theorem num2 (y:Nat):num y 2 = by2 y:=by
 unfold num by2;simp [List.range,List.range.loop]
theorem u64_n {y:Nat} (h:y ≤ 1000000):IntKind.u64.wrap ((y:Nat):Int) = ((y:Nat):Int):=by rw [wrap_u64]; omega
theorem zES {lo:Nat} {H:Heap} {bv:V} {k r s e n m:Nat} {b:List Nat} (hb:By lo H bv b)
  (hg:∀ H',By lo H' bv b → Ok (sem T zak [.agg (nC ⟨(k:Nat),(r:Nat),(s:Nat),(e:Nat),(n:Nat),(m:Nat),b⟩ bv)]) H' fun r' H''=>r' = .bool true ∧ Grow H' H'')
  (h8:k < 256 ∧ r < 256 ∧ s < 256) (h16:e ≤ 65535 ∧ n ≤ 65535 ∧ m ≤ 65535) (hl:b.length ≤ 200) :
  Ok (sem T zaQ [.agg (nC ⟨(k:Nat),(r:Nat),(s:Nat),(e:Nat),(n:Nat),(m:Nat),b⟩ bv)]) H fun r' H'=>Grow H H' ∧ ∃ v,r' = .tup [v,.int .i64 0] ∧ Ab H.next H' v (zpL ⟨(k:Nat),(r:Nat),(s:Nat),(e:Nat),(n:Nat),(m:Nat),b⟩):=by
 refine zmf ?_;unfold f_palanquinref16_Bytes uL uM uS uF uFM uO uU uc ub;obtain ⟨h1,h2,h3⟩:=h8;obtain ⟨h4,h5,h6⟩:=h16;have vc:=hb.cells1;have vo:=hb.okc;refine zbO (zgV (by simp [nC,V.okc,vo]) ?_);rw [zbI];have s0:=Grow.new H ⟨zad,nC ⟨(k:Nat),(r:Nat),(s:Nat),(e:Nat),(n:Nat),(m:Nat),b⟩ bv,none⟩;have g0:(H.new ⟨zad,nC ⟨(k:Nat),(r:Nat),(s:Nat),(e:Nat),(n:Nat),(m:Nat),b⟩ bv,none⟩).get H.next = some ⟨zad,nC ⟨(k:Nat),(r:Nat),(s:Nat),(e:Nat),(n:Nat),(m:Nat),b⟩ bv,none⟩:=zat _ _;have n0:(H.new ⟨zad,nC ⟨(k:Nat),(r:Nat),(s:Nat),(e:Nat),(n:Nat),(m:Nat),b⟩ bv,none⟩).next = H.next + 1:=zaZ _ _;generalize hq:H.next = q at *;generalize H.new _ = H0 at *;have l0:ldc (some 7) (nC ⟨(k:Nat),(r:Nat),(s:Nat),(e:Nat),(n:Nat),(m:Nat),b⟩ bv) 0 = some (.agg (nC ⟨(k:Nat),(r:Nat),(s:Nat),(e:Nat),(n:Nat),(m:Nat),b⟩ bv)):=rfl;simp (maxSteps:=1000000) (disch:=first | omega | (simp only [RY] <;> omega) | decide) only [↓RD,RZ,eq_self,Int.reduceToNat,Int.reduceAdd,Int.reduceSub,Int.reduceMul,Nat.reduceAdd,Nat.reduceSub,Nat.reduceMul,Nat.reduceDiv,Nat.reduceMod,Nat.reduceBEq,Nat.reduceLeDiff,g0,l0];refine za8 (hg H0 (hb.ext s0)) ?_;rintro _ H1 ⟨rfl,s1⟩;have n1:=s1.next;have s01:=s0.trans s1;have g1:=(s1.same q (by omega)).trans g0;unfold nC at g1;dsimp only at g1;have w8:∀ y:Nat,y < 256 → IntKind.u8.wrap ((y:Nat):Int) = ((y:Nat):Int):=fun y hy=>by rw [wrap_u8]; omega
 have wk:=w8 k h1;have wr:=w8 r h2;have ws:=w8 s h3;have u1:=u64_n (y:=e) (by omega);have u2:=u64_n (y:=n) (by omega);have u3:=u64_n (y:=m) (by omega);have u4:=u64_n (y:=b.length) (by omega);simp (maxSteps:=1000000) (disch:=first | omega | (simp only [RY] <;> omega) | decide) only [↓RD,RZ,eq_self,Int.reduceToNat,Int.reduceAdd,Int.reduceSub,Int.reduceMul,Nat.reduceAdd,Nat.reduceSub,Nat.reduceMul,Nat.reduceDiv,Nat.reduceMod,Nat.reduceBEq,Nat.reduceLeDiff,g1,wk,wr,ws,u1];have sA:=Grow.new H1 ⟨zaj,[.int .u8 (k:Nat),.int .u8 (r:Nat),.int .u8 (s:Nat)],none⟩;have gA:(H1.new ⟨zaj,[.int .u8 (k:Nat),.int .u8 (r:Nat),.int .u8 (s:Nat)],none⟩).get H1.next = _:=zat _ _;have nA:(H1.new ⟨zaj,[.int .u8 (k:Nat),.int .u8 (r:Nat),.int .u8 (s:Nat)],none⟩).next = H1.next + 1:=zaZ _ _;rw [zhW];generalize hp:H1.next = p at *;generalize H1.new _ = H2 at *;have hv0:By p H2 (.sl p 0 3 (.fix 3)) [k,r,s]:=Ab.by (.full gA rfl (Nat.le_refl _) (by omega));have g2:=(sA.same q (by omega)).trans g1;refine za8 (U_ok e 2 hv0 (by omega) (by omega) (by simp)) ?_;rintro v1 H3 ⟨hv1,s3⟩;have n3:=s3.next;have g3:=(s3.same q (by omega)).trans g2;simp (maxSteps:=1000000) (disch:=first | omega | (simp only [RY] <;> omega) | decide) only [↓RD,RZ,eq_self,Int.reduceToNat,Int.reduceAdd,Int.reduceSub,Int.reduceMul,Nat.reduceAdd,Nat.reduceSub,Nat.reduceMul,Nat.reduceDiv,Nat.reduceMod,Nat.reduceBEq,Nat.reduceLeDiff,g3,u2];refine za8 (U_ok n 2 hv1.by (by omega) (by omega) (by simp [zy6])) ?_;rintro v2 H4 ⟨hv2,s4⟩;have n4:=s4.next;have g4:=(s4.same q (by omega)).trans g3;simp (maxSteps:=1000000) (disch:=first | omega | (simp only [RY] <;> omega) | decide) only [↓RD,RZ,eq_self,Int.reduceToNat,Int.reduceAdd,Int.reduceSub,Int.reduceMul,Nat.reduceAdd,Nat.reduceSub,Nat.reduceMul,Nat.reduceDiv,Nat.reduceMod,Nat.reduceBEq,Nat.reduceLeDiff,g4,u3];refine za8 (U_ok m 2 hv2.by (by omega) (by omega) (by simp [zy6])) ?_;rintro v3 H5 ⟨hv3,s5⟩;have n5:=s5.next;have g5:=(s5.same q (by omega)).trans g4;have s05:=s01.trans (sA.trans (s3.trans (s4.trans s5)));have bl:=(hb.ext s05).vlen;simp (maxSteps:=1000000) (disch:=first | omega | (simp only [RY] <;> omega) | decide) only [↓RD,RZ,eq_self,Int.reduceToNat,Int.reduceAdd,Int.reduceSub,Int.reduceMul,Nat.reduceAdd,Nat.reduceSub,Nat.reduceMul,Nat.reduceDiv,Nat.reduceMod,Nat.reduceBEq,Nat.reduceLeDiff,g5,bl,u4];refine za8 (U_ok b.length 2 hv3.by (by omega) (by omega) (by simp [zy6])) ?_;rintro v4 H6 ⟨hv4,s6⟩;have n6:=s6.next;have e6:=s6.same q (by omega);have s06:=s05.trans s6;simp (maxSteps:=1000000) (disch:=first | omega | (simp only [RY] <;> omega) | decide) only [↓RD,RZ,eq_self,Int.reduceToNat,Int.reduceAdd,Int.reduceSub,Int.reduceMul,Nat.reduceAdd,Nat.reduceSub,Nat.reduceMul,Nat.reduceDiv,Nat.reduceMod,Nat.reduceBEq,Nat.reduceLeDiff,e6];refine zFB hv4 n6 (hb.ext s06).ac (by simp only [List.length_append,zy6,List.length_cons,List.length_nil]; omega) fun v5 H7 hv5 b7=>?_;simp (maxSteps:=1000000) (disch:=first | omega | (simp only [RY] <;> omega) | decide) only [↓RD,RZ,eq_self,Int.reduceToNat,Int.reduceAdd,Int.reduceSub,Int.reduceMul,Nat.reduceAdd,Nat.reduceSub,Nat.reduceMul,Nat.reduceDiv,Nat.reduceMod,Nat.reduceBEq,Nat.reduceLeDiff]
 have n05:=s05.next;refine ⟨s06.bel' (by omega) b7,v5,rfl,?_⟩;have e':zpL ⟨(k:Nat),(r:Nat),(s:Nat),(e:Nat),(n:Nat),(m:Nat),b⟩ = [k,r,s] ++ num e 2 ++ num n 2 ++ num m 2 ++ num b.length 2 ++ b:=by
  unfold zpL;simp only [Int.toNat_natCast,num2,List.flatMap_cons,List.flatMap_nil,List.append_nil,List.append_assoc]
 rw [e'];exact Apf.low hv5 (by omega)
theorem zFh {lo:Nat} {H:Heap} {bv:V} {k r s e n m:Nat} {b:List Nat} (hb:By lo H bv b)
  (hg:∀ H',By lo H' bv b → Ok (sem T zak [.agg (nC ⟨(k:Nat),(r:Nat),(s:Nat),(e:Nat),(n:Nat),(m:Nat),b⟩ bv)]) H' fun r' H''=>r' = .bool true ∧ Grow H' H'')
  (h8:k < 256 ∧ r < 256 ∧ s < 256) (h16:e ≤ 65535 ∧ n ≤ 65535 ∧ m ≤ 65535) (hl:b.length ≤ 200) :
  Ok (sem T zaK [.agg (nC ⟨(k:Nat),(r:Nat),(s:Nat),(e:Nat),(n:Nat),(m:Nat),b⟩ bv)]) H fun r' H'=>Grow H H' ∧ Ab H.next H' r' (zpL ⟨(k:Nat),(r:Nat),(s:Nat),(e:Nat),(n:Nat),(m:Nat),b⟩):=by
 refine znw ?_;unfold f_palanquinlaw27_says uS uE uO;have vc:=hb.cells1;have vo:=hb.okc;refine zbO (zgV (by simp [nC,V.okc,vo]) ?_);rw [zbI];have s0:=Grow.new H ⟨zad,nC ⟨(k:Nat),(r:Nat),(s:Nat),(e:Nat),(n:Nat),(m:Nat),b⟩ bv,none⟩;have g0:(H.new ⟨zad,nC ⟨(k:Nat),(r:Nat),(s:Nat),(e:Nat),(n:Nat),(m:Nat),b⟩ bv,none⟩).get H.next = some ⟨zad,nC ⟨(k:Nat),(r:Nat),(s:Nat),(e:Nat),(n:Nat),(m:Nat),b⟩ bv,none⟩:=zat _ _;generalize hq:H.next = q at *;generalize H.new _ = H0 at *;have l0:ldc (some 7) (nC ⟨(k:Nat),(r:Nat),(s:Nat),(e:Nat),(n:Nat),(m:Nat),b⟩ bv) 0 = some (.agg (nC ⟨(k:Nat),(r:Nat),(s:Nat),(e:Nat),(n:Nat),(m:Nat),b⟩ bv)):=rfl;have n1:=s0.next;simp (disch:=omega) only [↓RD,RZ,g0,l0];refine za8 (zES (hb.ext s0) hg h8 h16 hl) ?_;rintro _ H1 ⟨s1,v,rfl,hv⟩;simp (disch:=omega) only [↓RD,RZ];exact ⟨s0.trans s1,Apf.low hv (by omega)⟩
end Go.Ax.SU
/- Dk16 -/
namespace Go.Ax.SU
open Go.Ax
theorem zu4 {lo:Nat} {H:Heap} {bv:V} {b:List Nat} {i:Nat} (hb:By lo H bv b) (b8:Ok8 b) (hi:i + 1 < b.length) (hl:b.length ≤ 1000000) :
  Ok (sem T zai [bv,.int .i64 (i:Nat)]) H fun r H'=>r = .int .i64 (twoB b i:Nat) ∧ H' = H:=by
 refine znN ?_;unfold f_palanquinref16_two uL uB uIM uc uq;obtain ⟨p0,hp0,hl0,-⟩:=zxN hb (i:=(i:Nat)) (by omega) (by omega);obtain ⟨p1,hp1,hl1,-⟩:=zxN hb (i:=((i + 1:Nat):Int)) (by omega) (by omega);rw [Int.toNat_natCast] at hl0 hl1;have h0:=b8.getD i;have h1:=b8.getD (i + 1);have c0:=zxq h0;have c1:=zxq h1;have w:IntKind.i64.wrap (((i:Nat):Int) + 1) = ((i + 1:Nat):Int):=by rw [wrap_i64 (by omega) (by omega)]; omega
 have sh:Ax.bin .shl (.int .i64 (b.getD i 0:Nat)) (.int .u64 8) = some (.int .i64 (b.getD i 0 * 256:Nat)):=by
  rw [zqU (by decide)];have:((b.getD i 0:Nat):Int) * 2 ^ min (8:Int).toNat IntKind.i64.bits = ((b.getD i 0 * 256:Nat):Int):=by
   show ((b.getD i 0:Nat):Int) * 256 = _;omega
  rw [this,wrap_i64 (by omega) (by omega)]
 have ho:=two8 h0 h1;unfold twoB;generalize b.getD i 0 = x at *;generalize b.getD (i + 1) 0 = y at *;have ho':Ax.bin .or (.int .i64 (x * 256:Nat)) (.int .i64 (y:Nat)) = some (.int .i64 (x * 256 + y:Nat)):=by
  rw [zFw (by omega) (by omega) (by omega) (by omega),Int.toNat_natCast,Int.toNat_natCast,ho]
 simp (disch:=omega) only [↓RD,RZ,hp0,hl0,hp1,hl1,c0,c1,w,sh,ho']
theorem zEO {lo:Nat} {H:Heap} {bv:V} {b:List Nat} (hb:By lo H bv b) (b8:Ok8 b) (h11:11 ≤ b.length) (h9:twoB b 9 = b.length - 11) (h2:twoB b 9 ≤ 200)
  (hg:∀ (H':Heap) (lo':Nat) (v:V),By lo' H' v (b.drop 11) → Ok (sem T zak [.agg (nC (rawN b) v)]) H' fun r' H''=>r' = .bool true ∧ Grow H' H'') :
  Ok (sem T zaP [bv]) H fun r H'=>Grow H H' ∧ ∃ v,r = .tup [.agg (nC (rawN b) v),.int .i64 0] ∧ By H.next H' v (b.drop 11):=by
 refine zme ?_;unfold f_palanquinref16_Parse uL uM uS uT uF uB uI uO uU uc ub;have hl:b.length ≤ 1000000:=by omega
 refine zbO (zgV rfl ?_);rw [zbI];have s1:=Grow.new H ⟨zad,nC zN .nils,none⟩;have p1:(H.new ⟨zad,nC zN .nils,none⟩).get H.next = some ⟨zad,nC zN .nils,none⟩:=zat _ _;have n1:(H.new ⟨zad,nC zN .nils,none⟩).next = H.next + 1:=zaZ _ _;show Ok _ (H.new ⟨zad,nC zN .nils,none⟩) _;generalize hq:H.next = q at *;generalize H.new _ = H1 at *;have hb1:=hb.ext s1;have bl:=hb1.vlen;have d:decide (((b.length:Nat):Int) < 11) = false:=decide_eq_false (by omega);have d':decide (b.length < 11) = false:=decide_eq_false (by omega);obtain ⟨p0,hp0,hl0,-⟩:=zxN hb1 (i:=0) (by omega) (by omega);obtain ⟨p1',hp1,hl1,-⟩:=zxN hb1 (i:=1) (by omega) (by omega);obtain ⟨p2,hp2,hl2,-⟩:=zxN hb1 (i:=2) (by omega) (by omega);have c0:=zxq (b8.getD 0);have c1:=zxq (b8.getD 1);have c2:=zxq (b8.getD 2);have t3:=@zbY _ _ _ _ (show Ok (sem T zai [bv,.int .i64 3]) H1 _ from zu4 (i:=3) hb1 b8 (by omega) hl);have t5:=@zbY _ _ _ _ (show Ok (sem T zai [bv,.int .i64 5]) H1 _ from zu4 (i:=5) hb1 b8 (by omega) hl);have t7:=@zbY _ _ _ _ (show Ok (sem T zai [bv,.int .i64 7]) H1 _ from zu4 (i:=7) hb1 b8 (by omega) hl);simp (maxSteps:=1000000) (disch:=first | omega | (simp only [RY] <;> omega) | decide) only [↓RD,RZ,eq_self,Int.reduceToNat,Int.reduceAdd,Int.reduceSub,Int.reduceMul,Nat.reduceAdd,Nat.reduceSub,Nat.reduceMul,Nat.reduceDiv,Nat.reduceMod,Nat.reduceBEq,Nat.reduceLeDiff,bl,d,d',hp0,hp1,hp2,hl0,hl1,hl2,c0,c1,c2,t3,t5,t7];have h8:=b8.getD;have s2:Grow H1 ((H1.new ⟨zad,[.int .i64 0,.int .i64 0,.int .i64 0,.int .i64 0,.int .i64 0,.int .i64 0,.nils],none⟩).set H1.next (some ⟨zad,nC { rawN b with b:=[] } .nils,none⟩)):=(Grow.new _ _).set (Nat.le_refl _) _;have p3:((H1.new ⟨zad,[.int .i64 0,.int .i64 0,.int .i64 0,.int .i64 0,.int .i64 0,.int .i64 0,.nils],none⟩).set H1.next (some ⟨zad,nC { rawN b with b:=[] } .nils,none⟩)).get H1.next = _:=zc1 _ _ _;have n2:((H1.new ⟨zad,[.int .i64 0,.int .i64 0,.int .i64 0,.int .i64 0,.int .i64 0,.int .i64 0,.nils],none⟩).set H1.next (some ⟨zad,nC { rawN b with b:=[] } .nils,none⟩)).next = H1.next + 1:=rfl;rw [zhW];rw [n1] at s2 p3 n2;rw [n1];unfold nC rawN at s2 p3 n2;dsimp only at s2 p3 n2;generalize Heap.set (Heap.new H1 _) _ _ = H2 at *;have p2':=(s2.same q (by omega)).trans p1;have hb2:=hb1.ext s2;have s02:=s1.trans s2;have bl2:=hb2.vlen;have d1:decide ((200:Int) < ((b.length - 11:Nat):Int)) = false:=decide_eq_false (by omega);have d1':decide (200 < b.length - 11) = false:=decide_eq_false (by omega);have w11:IntKind.i64.wrap (((b.length:Nat):Int) - 11) = ((b.length - 11:Nat):Int):=by rw [wrap_i64 (by omega) (by omega)]; omega
 obtain ⟨rv,-,-,hs,hrv,-⟩:=zDp hb2 (x:=11) (y:=(b.length:Nat)) (by omega) (by omega) (by omega);replace hs:∀ {kk:IntKind},zbr .sl 1 bv (some (.int kk 11)) none none = some rv:=hs rfl;have hr2:By lo H2 rv (b.drop 11):=by
  have e:((b.drop (11:Int).toNat).take (((b.length:Nat):Int).toNat - (11:Int).toNat)) = b.drop 11:=List.take_of_length_le (by rw [List.length_drop,Int.toNat_natCast]; exact Nat.le_refl _);rw [e] at hrv;exact hrv
 refine za8 (zu4 (i:=9) hb2 b8 (by omega) hl) ?_;rintro _ H2 ⟨rfl,rfl⟩;rw [h9];have dl:decide (((b.length - 11:Nat):Int) < ((b.length - 11:Nat):Int)) = false:=decide_eq_false (by omega);have dl':decide (b.length - 11 < b.length - 11) = false:=decide_eq_false (by omega);simp (maxSteps:=1000000) (disch:=first | omega | (simp only [RY] <;> omega) | decide) only [↓RD,RZ,eq_self,Int.reduceToNat,Int.reduceAdd,Int.reduceSub,Int.reduceMul,Nat.reduceAdd,Nat.reduceSub,Nat.reduceMul,Nat.reduceDiv,Nat.reduceMod,Nat.reduceBEq,Nat.reduceLeDiff,d1,d1',bl2,w11,dl,dl',hs];rw [zhW];refine copy8 hr2 (by rw [List.length_drop]; omega) fun v H3 hv s3=>?_;have n3:=s3.next;have p33:=(s3.same (q + 1) (by omega)).trans p3;have p23:=(s3.same q (by omega)).trans p2';have vc3:=hv.by.cells1;have vo3:=hv.by.okc;simp (maxSteps:=1000000) (disch:=first | omega | (simp only [RY] <;> omega) | decide) only [↓RD,RZ,eq_self,Int.reduceToNat,Int.reduceAdd,Int.reduceSub,Int.reduceMul,Nat.reduceAdd,Nat.reduceSub,Nat.reduceMul,Nat.reduceDiv,Nat.reduceMod,Nat.reduceBEq,Nat.reduceLeDiff,p33,vc3,vo3];rw [zhW];have n2':H2.next = q + 2:=by omega
 have a4:AtS [q + 1] H3 (H3.set (q + 1) (some ⟨zad,nC (rawN b) v,none⟩)):=AtS.set _ (by simp) _;have s34:Grow H (H3.set (q + 1) (some ⟨zad,nC (rawN b) v,none⟩)):=(s02.trans s3).set (by omega) _;have p34:(H3.set (q + 1) (some ⟨zad,nC (rawN b) v,none⟩)).get (q + 1) = _:=zc1 _ _ _;have p24:(H3.set (q + 1) (some ⟨zad,nC (rawN b) v,none⟩)).get q = _:=(zcL _ _ (by omega)).trans p23;have n4:(H3.set (q + 1) (some ⟨zad,nC (rawN b) v,none⟩)).next = H3.next:=rfl;have hv4:=Lc.atS hv.by a4 fun j hj h=>by
  have:=(hv.by.own j hj).1;simp only [List.mem_singleton] at h;omega
 show Ok _ (H3.set (q + 1) (some ⟨zad,nC (rawN b) v,none⟩)) _;generalize Heap.set H3 _ _ = H4 at *;refine za8 (hg H4 _ v hv4) ?_;rintro _ H5 ⟨rfl,s5⟩;have p35:=(s5.same (q + 1) (by omega)).trans p34;have p25:=(s5.same q (by omega)).trans p24;have s05:=s34.trans s5;have hv5:=hv4.ext s5;have l7:ldc (some 7) (nC (rawN b) v) 0 = some (.agg (nC (rawN b) v)):=rfl;have hc7:(nC (rawN b) v).length = 7:=rfl;have ok7:(V.agg (nC (rawN b) v)).okc = true:=by simp [nC,V.okc,vo3]
 have sp7:splice (nC zN .nils) 0 (nC (rawN b) v) = nC (rawN b) v:=rfl;have hz7:(nC zN .nils).length = 7:=rfl;simp (maxSteps:=1000000) (disch:=first | omega | (simp only [RY] <;> omega) | decide) only [↓RD,RZ,eq_self,Int.reduceToNat,Int.reduceAdd,Int.reduceSub,Int.reduceMul,Nat.reduceAdd,Nat.reduceSub,Nat.reduceMul,Nat.reduceDiv,Nat.reduceMod,Nat.reduceBEq,Nat.reduceLeDiff,p35,l7,p25,zbI,hc7,ok7,sp7,hz7];refine ⟨s05.set (by omega) _,v,rfl,?_⟩;exact (Lc.atS hv5 (AtS.set (S:=[q]) H5 (by simp) _) fun j hj h=>by
  have:=(hv.by.own j hj).1;simp only [List.mem_singleton] at h;omega).low (by omega)
end Go.Ax.SU
/- Ax21 -/
namespace Go.Ax.Cc
inductive CT where
 | lf (v:V)
 | nd (l r:CT)
def CT.get:Nat → CT → Nat → V
 | 0,.lf v,_=>v
 | 0,.nd _ _,_=>.undef
 | _ + 1,.lf _,_=>.undef
 | d + 1,.nd l r,i=>if i < 2 ^ d then CT.get d l i else CT.get d r (i - 2 ^ d)
def CT.set {α:Type}:Nat → CT → Nat → V → (CT → α) → α
 | 0,.lf _,_,v,k=>k (.lf v)
 | 0,.nd _ _,_,v,k=>k (.lf v)
 | d + 1,.lf _,i,v,k=>if i < 2 ^ d then CT.set d (.lf .undef) i v fun l'=>k (.nd l' (.lf .undef)) else CT.set d (.lf .undef) (i - 2 ^ d) v fun r'=>k (.nd (.lf .undef) r')
 | d + 1,.nd l r,i,v,k=>if i < 2 ^ d then CT.set d l i v fun l'=>k (.nd l' r) else CT.set d r (i - 2 ^ d) v fun r'=>k (.nd l r')
def CT.sets {α:Type} (d:Nat):CT → Nat → List V → (CT → α) → α
 | t,_,[],k=>k t
 | t,i,v :: vs,k=>CT.set d t i v fun t'=>CT.sets d t' (i + 1) vs k
def CT.abs:Nat → CT → List V
 | 0,.lf v=>[v]
 | 0,.nd _ _=>[.undef]
 | d + 1,.lf _=>List.replicate (2 ^ (d + 1)) .undef
 | d + 1,.nd l r=>CT.abs d l ++ CT.abs d r
def CT.mk {α:Type}:Nat → List V → (CT → List V → α) → α
 | 0,[],k=>k (.lf .undef) []
 | 0,v :: vs,k=>k (.lf v) vs
 | d + 1,vs,k=>CT.mk d vs fun l r=>CT.mk d r fun l' r'=>k (.nd l l') r'
def CT.rng (d:Nat) (t:CT):Nat → Nat → List V
 | _,0=>[]
 | i,m + 1=>CT.get d t i :: CT.rng d t (i + 1) m
theorem CT.abs_len:∀ (d:Nat) (t:CT),(CT.abs d t).length = 2 ^ d
 | 0,.lf _=>rfl
 | 0,.nd _ _=>rfl
 | d + 1,.lf _=>by simp [CT.abs]
 | d + 1,.nd l r=>by simp only [CT.abs,List.length_append,CT.abs_len d l,CT.abs_len d r,Nat.pow_succ]; omega
theorem CT.get_abs : ∀ (d : Nat) (t : CT) (i : Nat), i < 2 ^ d → (CT.abs d t)[i]? = some (CT.get d t i)
  | 0, .lf v, i, h => by have : i = 0 := by simpa using h
                         subst this; rfl
  | 0, .nd _ _, i, h => by have : i = 0 := by simpa using h
                           subst this; rfl
  | d + 1, .lf _, i, h => by simp only [CT.abs, CT.get, List.getElem?_replicate]; rw [if_pos h]
  | d + 1, .nd l r, i, h => by
    simp only [CT.abs, CT.get]
    rw [List.getElem?_append, CT.abs_len]
    by_cases hi : i < 2 ^ d
    · rw [if_pos hi, if_pos hi, CT.get_abs d l i hi]
    · rw [if_neg hi, if_neg hi, CT.get_abs d r _ (by rw [Nat.pow_succ] at h; omega)]
theorem CT.rng_abs (d:Nat) (t:CT):∀ (m i:Nat),i + m ≤ 2 ^ d → CT.rng d t i m = ((CT.abs d t).drop i).take m
 | 0,i,_=>by simp [CT.rng]
 | m + 1,i,h=>by
  have hi:i < (CT.abs d t).length:=by rw [CT.abs_len]; omega
  rw [CT.rng,CT.rng_abs d t m (i + 1) (by omega),List.drop_eq_getElem_cons hi,List.take_succ_cons];have:=CT.get_abs d t i (by omega);rw [List.getElem?_eq_getElem hi] at this;injection this with this
  rw [this]
theorem CT.abs_blank (d:Nat):CT.abs d (.lf .undef) = List.replicate (2 ^ d) .undef:=by cases d <;> rfl
theorem CT.set_abs {α:Type}:∀ (d:Nat) (t:CT) (i:Nat) (v:V) (k:CT → α),i < 2 ^ d → ∃ t',CT.set d t i v k = k t' ∧ CT.abs d t' = (CT.abs d t).set i v:=by
 intro d
 induction d with
 | zero =>
  intro t i v k h;have:i = 0:=by simpa using h
  subst this;cases t <;> exact ⟨_,rfl,rfl⟩
 | succ d ih =>
  have key:∀ (l r:CT) (i:Nat) (v:V) (k:CT → α),i < 2 ^ (d + 1) → (∃ t',(if i < 2 ^ d then CT.set d l i v fun l'=>k (.nd l' r) else CT.set d r (i - 2 ^ d) v fun r'=>k (.nd l r')) = k t' ∧ CT.abs (d + 1) t' = (CT.abs d l ++ CT.abs d r).set i v):=by
   intro l r i v k h;by_cases hi:i < 2 ^ d
   ·rw [if_pos hi];obtain ⟨t',h1,h3⟩:=ih l i v (fun l'=>k (.nd l' r)) hi;refine ⟨.nd t' r,h1,?_⟩;simp only [CT.abs,h3];rw [List.set_append_left _ _ (by rw [CT.abs_len]; exact hi)]
   ·rw [if_neg hi];obtain ⟨t',h1,h3⟩:=ih r (i - 2 ^ d) v (fun r'=>k (.nd l r')) (by rw [Nat.pow_succ] at h; omega);refine ⟨.nd l t',h1,?_⟩;simp only [CT.abs,h3];rw [List.set_append_right _ _ (by rw [CT.abs_len]; omega),CT.abs_len]
  intro t i v k h;cases t with
  | nd l r=>exact key l r i v k h
  | lf u =>
   obtain ⟨t',h1,h2⟩:=key (.lf .undef) (.lf .undef) i v k h;refine ⟨t',h1,?_⟩;rw [h2,CT.abs_blank];show _ = (List.replicate (2 ^ (d + 1)) .undef).set i v;rw [List.replicate_append_replicate,Nat.pow_succ];congr 2;omega
theorem zAf (cs:List V) (i:Nat) (v:V) (vs:List V) (h:i + (v :: vs).length ≤ cs.length):splice cs i (v :: vs) = splice (cs.set i v) (i + 1) vs:=by
 simp only [List.length_cons] at h;apply List.ext_getElem?;intro j;rw [zhU _ _ _ (by simpa using h),zhU _ _ _ (by rw [List.length_set]; omega)];simp only [List.length_cons];by_cases h1:j = i
 ·subst h1;rw [if_pos (by omega),if_neg (by omega),Nat.sub_self,List.getElem?_cons_zero,List.getElem?_set_self (by omega)]
 ·by_cases h2:i ≤ j ∧ j < i + (vs.length + 1)
  ·rw [if_pos h2,if_pos (by omega),show j - i = (j - (i + 1)) + 1 by omega,List.getElem?_cons_succ]
  ·rw [if_neg h2,if_neg (by omega),List.getElem?_set_ne (by omega)]
theorem CT.sets_abs {α:Type} (d:Nat):∀ (vs:List V) (t:CT) (i:Nat) (k:CT → α),i + vs.length ≤ 2 ^ d → ∃ t',CT.sets d t i vs k = k t' ∧ CT.abs d t' = splice (CT.abs d t) i vs
 | [],t,i,k,h=>⟨t,rfl,by simp [splice]⟩
 | v :: vs,t,i,k,h=>by
  simp only [List.length_cons] at h;obtain ⟨t1,h1,h3⟩:=CT.set_abs d t i v (fun t'=>CT.sets d t' (i + 1) vs k) (by omega);obtain ⟨t2,g1,g3⟩:=CT.sets_abs d vs t1 (i + 1) k (by omega);refine ⟨t2,by rw [CT.sets,h1,g1],?_⟩;rw [g3,h3,zAf _ _ _ _ (by rw [CT.abs_len,List.length_cons]; omega)]
theorem CT.mk_abs {α:Type}:∀ (d:Nat) (vs:List V) (k:CT → List V → α),∃ t,CT.mk d vs k = k t (vs.drop (2 ^ d)) ∧ ∀ j,j < vs.length → j < 2 ^ d → (CT.abs d t)[j]? = vs[j]?
 | 0,[],k=>⟨_,rfl,fun j h=>by simp at h⟩
 | 0,v :: vs,k=>⟨_,rfl,fun j _ h=>(by
  have:j = 0:=by simpa using h
  subst this;rfl)⟩
 | d + 1,vs,k=>by
  obtain ⟨t,h1,h3⟩:=CT.mk_abs d vs (fun l r=>CT.mk d r fun l' r'=>k (.nd l l') r');obtain ⟨t',g1,g3⟩:=CT.mk_abs d (vs.drop (2 ^ d)) (fun l' r'=>k (.nd t l') r');refine ⟨.nd t t',?_,fun j hj hj2=>?_⟩
  ·rw [CT.mk,h1,g1,List.drop_drop,Nat.pow_succ];rw [show 2 ^ d + 2 ^ d = 2 ^ d * 2 by omega]
  ·simp only [CT.abs];rw [List.getElem?_append,CT.abs_len];by_cases h:j < 2 ^ d
   ·rw [if_pos h,h3 j hj h]
   ·rw [if_neg h,g3 _ (by rw [List.length_drop]; omega) (by rw [Nat.pow_succ] at hj2; omega),List.getElem?_drop];congr 1;omega
structure Bk where
 ty:TypeId
 n:Nat
 d:Nat
 t:CT
 opn:Option Nat
def Bk.abs (b:Bk):Blk:=⟨b.ty,(CT.abs b.d b.t).take b.n,b.opn⟩
def dep:Nat → Nat → Nat → Nat
 | 0,d,_=>d
 | f + 1,d,n=>if n ≤ 2 ^ d then d else dep f (d + 1) n
theorem dep_le:∀ (f d n:Nat),n ≤ d + f → n ≤ 2 ^ (dep f d n)
 | 0,d,n,h=>by
  rw [dep];have:d < 2 ^ d:=Nat.lt_two_pow_self;omega
 | f + 1,d,n,h=>by
  rw [dep];split
  ·assumption
  ·exact dep_le f (d + 1) n (by omega)
def ofB {α:Type} (b:Blk) (k:Bk → α):α:=CT.mk (dep b.cells.length 0 b.cells.length) b.cells fun t _=>k ⟨b.ty,b.cells.length,dep b.cells.length 0 b.cells.length,t,b.opn⟩
theorem zFD {α:Type} (b:Blk) (k:Bk → α):∃ b',ofB b k = k b' ∧ b'.abs = b:=by
 obtain ⟨t,h1,h3⟩:=CT.mk_abs (dep b.cells.length 0 b.cells.length) b.cells (fun t _=>k ⟨b.ty,b.cells.length,dep b.cells.length 0 b.cells.length,t,b.opn⟩);refine ⟨_,h1,?_⟩;have hle:=dep_le b.cells.length 0 b.cells.length (by omega);show (⟨b.ty,(CT.abs (dep b.cells.length 0 b.cells.length) t).take b.cells.length,b.opn⟩:Blk) = b;have:(CT.abs (dep b.cells.length 0 b.cells.length) t).take b.cells.length = b.cells:=by
  apply List.ext_getElem?;intro j;by_cases hj:j < b.cells.length
  ·rw [List.getElem?_take_of_lt hj,h3 j hj (by omega)]
  ·rw [List.getElem?_eq_none (by rw [List.length_take]; omega),List.getElem?_eq_none (by omega)]
 rw [this]
inductive Tr where
 | e
 | n (v:Option Bk) (l r:Tr)
def Tr.get:Tr → Nat → Option Bk
 | .e,_=>none
 | .n v l r,k=>if k = 0 then v else if (k - 1) % 2 = 0 then l.get ((k - 1) / 2) else r.get ((k - 1) / 2)
def Tr.val:Tr → Option Bk
 | .e=>none
 | .n v _ _=>v
def Tr.left:Tr → Tr
 | .e=>.e
 | .n _ l _=>l
def Tr.right:Tr → Tr
 | .e=>.e
 | .n _ _ r=>r
def Tr.put:Nat → Tr → Nat → Option Bk → Tr
 | 0,t,_,_=>t
 | f + 1,t,k,b=>if k = 0 then .n b t.left t.right else if (k - 1) % 2 = 0 then .n t.val (Tr.put f t.left ((k - 1) / 2) b) t.right else .n t.val t.left (Tr.put f t.right ((k - 1) / 2) b)
theorem Tr.get_node (t:Tr) (k:Nat):t.get k = if k = 0 then t.val else if (k - 1) % 2 = 0 then t.left.get ((k - 1) / 2) else t.right.get ((k - 1) / 2):=by
 cases t with
 | e=>simp [Tr.get,Tr.val,Tr.left,Tr.right]
 | n v l r=>simp [Tr.get,Tr.val,Tr.left,Tr.right]
theorem Tr.get_put:∀ (f:Nat) (t:Tr) (k:Nat) (b:Option Bk),k < f → ∀ j,(Tr.put f t k b).get j = if j = k then b else t.get j:=by
 intro f
 induction f with
 | zero=>intro t k b h; omega
 | succ f ih =>
  intro t k b h j;simp only [Tr.put];by_cases hk:k = 0
  ·subst hk;rw [if_pos rfl];simp only [Tr.get];by_cases hj:j = 0
   ·rw [if_pos hj,if_pos hj]
   ·rw [if_neg hj,if_neg hj,Tr.get_node t j,if_neg hj]
  ·rw [if_neg hk];by_cases hp:(k - 1) % 2 = 0
   ·rw [if_pos hp];simp only [Tr.get];rw [Tr.get_node t j];by_cases hj:j = 0
    ·rw [if_pos hj,if_pos hj,if_neg (by omega)]
    ·rw [if_neg hj,if_neg hj];by_cases hq:(j - 1) % 2 = 0
     ·rw [if_pos hq,if_pos hq,ih _ _ _ (by omega)];by_cases e:j = k
      ·subst e; rw [if_pos rfl,if_pos rfl]
      ·rw [if_neg (by omega),if_neg e]
     ·rw [if_neg hq,if_neg hq,if_neg (by rintro rfl; exact hq hp)]
   ·rw [if_neg hp];simp only [Tr.get];rw [Tr.get_node t j];by_cases hj:j = 0
    ·rw [if_pos hj,if_pos hj,if_neg (by omega)]
    ·rw [if_neg hj,if_neg hj];by_cases hq:(j - 1) % 2 = 0
     ·rw [if_pos hq,if_pos hq,if_neg (by rintro rfl; exact hp hq)]
     ·rw [if_neg hq,if_neg hq,ih _ _ _ (by omega)];by_cases e:j = k
      ·subst e; rw [if_pos rfl,if_pos rfl]
      ·rw [if_neg (by omega),if_neg e]
structure Heap where
 t:Tr
 next:Nat
def Heap.getB (H:Heap) (id:Nat):Option Bk:=H.t.get id
def Heap.get (H:Heap) (id:Nat):Option Blk:=(H.t.get id).map Bk.abs
def Heap.setB (H:Heap) (id:Nat) (b:Option Bk):Heap:={ H with t:=Tr.put (id + 1) H.t id b }
def Heap.set (H:Heap) (id:Nat) (b:Option Blk):Heap:=match b with | none=>H.setB id none | some b=>ofB b fun b=>H.setB id (some b)
def Heap.new (H:Heap) (b:Blk):Heap:=ofB b fun b=>{ t:=Tr.put (H.next + 1) H.t H.next (some b),next:=H.next + 1 }
def Heap.abs (H:Heap):Ax.Heap:=⟨H.get,H.next⟩
theorem zjE (H:Heap) (id:Nat):H.abs.get id = H.get id:=rfl
theorem zvb (H:Heap):H.abs.next = H.next:=rfl
theorem zzO (H:Heap) (id:Nat) (b:Option Bk):(H.setB id b).abs = H.abs.set id (b.map Bk.abs):=by
 simp only [Heap.abs,Heap.setB,Ax.Heap.set,Ax.Heap.mk.injEq,and_true];funext i;simp only [Heap.get,Tr.get_put _ _ _ _ (Nat.lt_succ_self id)];by_cases h:i = id
 ·rw [if_pos h,if_pos h]
 ·rw [if_neg h,if_neg h]
theorem zo7 (H:Heap) (id:Nat) (b:Option Blk):(H.set id b).abs = H.abs.set id b:=by
 cases b with
 | none=>exact zzO H id none
 | some b =>
  obtain ⟨b',h1,h2⟩:=zFD b (fun b=>H.setB id (some b));simp only [Heap.set];rw [h1,zzO,Option.map_some,h2]
theorem zm1 (H:Heap) (b:Blk):(H.new b).abs = H.abs.new b:=by
 obtain ⟨b',h1,h2⟩:=zFD b (fun b=>({ t:=Tr.put (H.next + 1) H.t H.next (some b),next:=H.next + 1 }:Heap));unfold Heap.new;rw [h1];simp only [Heap.abs,Ax.Heap.new,Ax.Heap.mk.injEq,and_true];funext i;simp only [Heap.get,Tr.get_put _ _ _ _ (Nat.lt_succ_self H.next)];by_cases h:i = H.next
 ·subst h;simp only [if_true,Option.map_some,h2]
 ·simp only [h,if_false]
abbrev M (α:Type):Type:=Heap → Option (α × Heap)
abbrev Sem':Type:=FuncId → List V → M V
def zDe {α:Type} (n:Nat) (k:Nat → α):α:=Nat.rec (k 0) (fun m _=>k (Nat.succ m)) n
theorem zFY {α:Type} (n:Nat) (k:Nat → α):zDe n k = k n:=by cases n <;> rfl
def zFX {α:Type} (v:V) (k:V → α):α :=
 match v with
 | .int kk (.ofNat n)=>zDe n fun n=>k (.int kk (.ofNat n))
 | .int kk (.negSucc n)=>zDe n fun n=>k (.int kk (.negSucc n))
 | .lit (.float kk b)=>zDe b fun b=>k (.lit (.float kk b))
 | .bool true=>k (.bool true)
 | .bool false=>k (.bool false)
 | v=>k v
theorem zFW {α:Type} (v:V) (k:V → α):zFX v k = k v:=by
 unfold zFX;split <;> first | rfl | exact zFY ..
namespace M
def pure {α:Type} (a:α):M α:=fun H=>some (a,H)
def fail {α:Type}:M α:=fun _=>none
def bind {α β:Type} (x:M α) (f:α → M β):M β:=fun H=>match x H with | some r=>f r.1 r.2 | none=>none
def lift (o:Option V):M V:=fun H=>match o with | some a=>zFX a fun a=>some (a,H) | none=>none
def getH:M Heap:=fun H=>some (H,H)
def ite {α:Type} (c:V) (x y:M α):M α:=match c with
 | .bool b=>if b then x else y
 | _=>fail
end M
def ldt (n:Option Nat) (b:Bk) (off:Nat):Option V :=
 match n with
 | none=>if off < b.n then (if off < 2 ^ b.d then some (CT.get b.d b.t off) else none) else none
 | some n=>if off + n ≤ b.n then (if off + n ≤ 2 ^ b.d then some (.agg (CT.rng b.d b.t off n)) else none) else none
def mload (n:Option Nat) (p:V):M V:=fun H =>
 match p with
 | .ptr id off=>match H.getB id with | some b=>(match ldt n b off with | some v=>some (v,H) | none=>none) | none=>none
 | .rp cells off=>(ldc n cells off).map fun v=>(v,H)
 | _=>none
def mstore (size:Nat) (p x:V):M V:=fun H =>
 match p with
 | .ptr id off=>match H.getB id with
  | some b=>if x.cells.length = size ∧ off + size ≤ b.n ∧ off + size ≤ 2 ^ b.d ∧ x.okc = true then CT.sets b.d b.t off x.cells fun t=>some (.undef,H.setB id (some { b with t:=t })) else none
  | none=>none
 | _=>none
def mbox (ty:TypeId) (x:V):M V:=fun H=>if x.okc = true then some (.ptr H.next 0,H.new ⟨ty,x.cells,none⟩) else none
def mslit (ty:TypeId) (len:Nat) (zero:List V) (parts:List (Nat × Nat × V)):M V:=fun H =>
 (fill (zeros zero len) parts).map fun cs=>(.sl H.next 0 len (.fix len),H.new ⟨ty,cs,none⟩)
def rcells (esz:Nat) (H:Heap):V → Option (List V × Nat)
 | .nils=>some ([],0)
 | .sl id off len _=>(H.get id).bind fun b=>if off + len * esz ≤ b.cells.length then some ((b.cells.drop off).take (len * esz),len) else none
 | .rs cells len=>if len * esz ≤ cells.length then some (cells.take (len * esz),len) else none
 | _=>none
def acells (esz:Nat) (H:Heap):V → Option (List V × Nat)
 | .str s=>if esz = 1 then some (strCells s,s.size) else none
 | v=>rcells esz H v
def mappendq (ty esz bytes:Nat) (q:List V × Nat) (x:V):M V:=fun H =>
  match x with
  | .nils=>if q.2 = 0 then some (.nils,H) else if q.2 * bytes ≤ 140737488355328 ∧ q.2 ≤ maxLen then some (.sl H.next 0 q.2 (.opn esz),H.new ⟨ty,q.1,some esz⟩) else none
  | .sl id off len cap=>(H.get id).bind fun b =>
   if off + len * esz ≤ b.cells.length ∧ b.ty = ty then
    match cap with
    | .fix c =>
     if len + q.2 ≤ c then
      if off + (len + q.2) * esz ≤ b.cells.length then some (.sl id off (len + q.2) (.fix c),H.set id (some { b with cells:=splice b.cells (off + len * esz) q.1 })) else none
     else if (len + q.2) * bytes ≤ 140737488355328 ∧ len + q.2 ≤ maxLen then
      some (.sl H.next 0 (len + q.2) (.opn esz),H.new ⟨ty,(b.cells.drop off).take (len * esz) ++ q.1,some esz⟩)
     else none
    | .opn e =>
     if e = esz ∧ b.opn = some esz ∧ b.cells.length = off + len * esz then
      if q.2 = 0 then some (.sl id off len (.opn e),H)
      else if (len + q.2) * bytes ≤ 140737488355328 ∧ len + q.2 ≤ maxLen then
       some (.sl H.next 0 (len + q.2) (.opn esz),(H.set id none).new ⟨ty,b.cells.drop off ++ q.1,some esz⟩)
      else none
     else if e = esz ∧ q.2 = 0 then some (.sl id off len (.opn e),H)
     else if e = esz ∧ b.opn = some esz ∧ off + (len + q.2) * esz ≤ b.cells.length then
      some (.sl id off (len + q.2) (.opn e),H.set id (some { b with cells:=splice b.cells (off + len * esz) q.1 }))
     else none
   else none
  | .rs cells len=>if q.2 = 0 then some (.rs cells len,H) else none
  | _=>none
def mappend (ty esz bytes:Nat) (x y:V):M V:=fun H=>(acells esz H y).bind fun q=>mappendq ty esz bytes q x H
def mappendz (ty bytes:Nat) (zero:List V) (x n:V):M V:=fun H =>
 match n with
 | .int _ l =>
  if 0 ≤ IntKind.i64.wrap l ∧ IntKind.i64.wrap l * bytes ≤ 281474976710656 then mappendq ty zero.length bytes (zeros zero (IntKind.i64.wrap l).toNat,(IntKind.i64.wrap l).toNat) x H else none
 | _=>none
def mcopy (esz:Nat) (d s:V):M V:=fun H =>
 (acells esz H s).bind fun q =>
  match d with
  | .nils=>some (.int .i64 0,H)
  | .sl id off len _=>(H.get id).bind fun b =>
   if off + len * esz ≤ b.cells.length then
    some (.int .i64 ((min q.2 len:Nat):Int),H.set id (some { b with cells:=splice b.cells off (q.1.take (min q.2 len * esz)) }))
   else none
  | _=>none
def mslice2 (esz:Nat) (x lo hi:V):M V:=fun H =>
 match x,lo,hi with
 | .sl id off len (.opn e),.int _ l,.int _ h=>(H.get id).bind fun b =>
  if e = esz ∧ b.opn = some esz ∧ 0 ≤ l ∧ l ≤ h ∧ off + h.toNat * esz ≤ b.cells.length then some (.sl id (off + l.toNat * esz) (h.toNat - l.toNat) (.opn e),H) else none
 | _,_,_=>none
def mclear (zero:List V) (x:V):M V:=fun H =>
 match x with
 | .sl id off len _=>if len = 0 then some (.undef,H) else (H.get id).bind fun b =>
  if off + len * zero.length ≤ b.cells.length then some (.undef,H.set id (some { b with cells:=splice b.cells off (zeros zero len) })) else none
 | _=>none
def mmknz (ty:TypeId) (n:V):M V:=fun H =>
 match n with
 | .int .i64 n=>if 0 ≤ n ∧ n ≤ 281474976710656 then some (.sl H.next 0 n.toNat (.opn 1),H.new ⟨ty,List.replicate n.toNat .any,some 1⟩) else none
 | _=>none
def mtostr (x:V):M V:=fun H=>(rcells 1 H x).bind fun q=>(zxO q.1).map fun l=>(.str ⟨l.toArray⟩,H)
def mtobytes (ty:TypeId) (x:V):M V:=fun H =>
 match x with
 | .str s=>if s.size ≤ maxLen then some (.sl H.next 0 s.size (.opn 1),H.new ⟨ty,strCells s,some 1⟩) else none
 | _=>none
def mremark (ty:TypeId) (x:V):M V:=fun H =>
 match x with
 | .str s=>mtobytes ty (.str s) H
 | .sl id off len cap=>(H.get id).bind fun _=>if len = 0 then none else some (.sl id off len cap,H)
 | _=>none
def mmkslice (ty bytes:Nat) (zero:List V) (len cap:V):M V:=fun H =>
 match len,cap with
 | .int .i64 l,.int .i64 c =>
  if 0 ≤ l ∧ l ≤ c ∧ c * bytes ≤ 281474976710656 ∧ c ≤ 281474976710656 then
   some (.sl H.next 0 l.toNat (.fix c.toNat),H.new ⟨ty,zeros zero c.toNat,none⟩)
  else none
 | _,_=>none
def same1:V → V → Bool
 | .bool a,.bool b=>a == b
 | .int k a,.int k' b=>decide (k = k') && decide (a = b)
 | .nilp,.nilp=>true
 | .nils,.nils=>true
 | .ptr a b,.ptr c d=>decide (a = c) && decide (b = d)
 | .mp a,.mp b=>decide (a = b)
 | .sl a b c (.fix d),.sl a' b' c' (.fix d')=>decide (a = a') && decide (b = b') && decide (c = c') && decide (d = d')
 | .sl a b c (.opn d),.sl a' b' c' (.opn d')=>decide (a = a') && decide (b = b') && decide (c = c') && decide (d = d')
 | _,_=>false
def sames:List V → List V → Bool
 | [],[]=>true
 | v :: vs,u :: us=>same1 v u && sames vs us
 | _,_=>false
def zFi:Option Blk → Option Blk → Bool
 | none,none=>true
 | some a,some b=>decide (a.ty = b.ty) && decide (a.opn = b.opn) && sames a.cells b.cells
 | _,_=>false
theorem same1_eq {a b:V} (h:same1 a b = true):a = b:=by
 unfold same1 at h;split at h <;> simp_all
theorem sames_eq:∀ {a b:List V},sames a b = true → a = b:=by
 intro a
 induction a with
 | nil=>intro b h; cases b <;> simp_all [sames]
 | cons v a ih =>
  intro b h;cases b with
  | nil=>simp [sames] at h
  | cons u b =>
   simp only [sames,Bool.and_eq_true] at h;rw [same1_eq h.1,ih h.2]
theorem sameB_eq {a b:Option Blk} (h:zFi a b = true):a = b:=by
 cases a with
 | none=>cases b <;> simp_all [zFi]
 | some a =>
  cases b with
  | none=>simp [zFi] at h
  | some b =>
   obtain ⟨t,c,o⟩:=a;obtain ⟨t',c',o'⟩:=b;simp only [zFi,Bool.and_eq_true,decide_eq_true_eq] at h;obtain ⟨⟨rfl,rfl⟩,h⟩:=h;rw [sames_eq h]
def mmkmap (ty:TypeId):M V:=fun H=>some (.mp H.next,H.new ⟨ty,[],none⟩)
def mlookup (mk:MK) (zero:V) (ok:Bool) (x k:V):M V:=fun H =>
 match x with
 | .mp id=>(H.get id).bind fun b=>if kok mk k = true then (mget mk k b.cells).map fun r=>(if ok then .tup [r.getD zero,.bool r.isSome] else r.getD zero,H) else none
 | _=>none
def mmapset (mk:MK) (x k v:V):M V:=fun H =>
 match x with
 | .mp id=>(H.get id).bind fun b=>if kok mk k = true then (mset mk k v b.cells).map fun cs=>(.undef,H.set id (some { b with cells:=cs })) else none
 | _=>none
def mmapdrop (p:Bool) (o:Nat) (x n:V):M V:=fun H =>
 match x,n with
 | .ptr id off,.int .i64 n=>(H.get id).bind fun b0 =>
  match b0.cells[off + o]? with
  | some (.mp i)=>(H.get i).bind fun b=>(mfil p n b.cells).map fun cs=>(.undef,H.set i (some { b with cells:=cs }))
  | _=>none
 | _,_=>none
def matoload (k:IntKind) (p:V):M V:=fun H=>(mload none p H).bind fun r =>
 match r.1 with
 | .int k' n=>if k' = k then some (.int k n,r.2) else none
 | _=>none
def matoadd (k:IntKind) (p y:V):M V:=fun H =>
 match p,y with
 | .ptr id off,.int _ j=>(H.get id).bind fun b =>
  match b.cells[off]? with
  | some (.int k' n)=>if k' = k then some (.int k (k.wrap (n + j)),H.set id (some { b with cells:=splice b.cells off [.int k (k.wrap (n + j))] })) else none
  | _=>none
 | _,_=>none
def mmaplen (x:V):M V:=fun H =>
 match x with
 | .mp id=>(H.get id).map fun b=>(.int .i64 ((b.cells.length / 2:Nat):Int),H)
 | _=>none
def M.unch (v:V) (h h':Heap):M Unit:=fun H =>
 match v.pid with
 | none=>some ((),H)
 | some id=>if zFi (h'.get id) (h.get id) then some ((),H) else none
def callv (G:Sem') (x:V) (args:List V):M V :=
 match x with
 | .fn f caps=>G f (args ++ caps)
 | _=>M.fail
def with1 {α:Type} (A:Fr) (x:Arg) (k:V → M α):M α:=match x.ev A with | some v=>k v | none=>M.fail
def withs {α:Type} (A:Fr) (xs:List Arg) (k:List V → M α):M α:=match evs A xs with | some v=>k v | none=>M.fail
def I.run (G:Sem') (A:Fr):I → M V
 | .mv x=>with1 A x M.pure
 | .pick c a b=>with1 A c fun c=>with1 A a fun a=>with1 A b fun b=>M.lift (Ax.pick c a b)
 | .box ty x=>with1 A x fun x=>mbox ty x
 | .build zero parts=>match zdK A parts with | some ps=>M.lift (Ax.build zero ps) | none=>M.fail
 | .slit ty l zero parts=>match zdK A parts with | some ps=>mslit ty l zero ps | none=>M.fail
 | .load n x=>with1 A x fun x=>mload n x
 | .store size p x=>with1 A p fun p=>with1 A x fun x=>mstore size p x
 | .nilck x=>with1 A x fun x=>M.lift (Ax.nilck x)
 | .bin op x y=>with1 A x fun x=>with1 A y fun y=>M.lift (Ax.bin op x y)
 | .eq k neg x y=>with1 A x fun x=>with1 A y fun y=>M.lift (eqr k neg x y)
 | .un op x=>with1 A x fun x=>M.lift (Ax.un op x)
 | .cint k x=>with1 A x fun x=>M.lift (Ax.cint k x)
 | .tostr x=>with1 A x fun x=>mtostr x
 | .tobytes ty x=>with1 A x fun x=>mtobytes ty x
 | .faddr o x=>with1 A x fun x=>M.lift (Ax.faddr o x)
 | .iaddr alen esz x i=>with1 A x fun x=>with1 A i fun i=>M.lift (Ax.iaddr alen esz x i)
 | .index l esz n x i=>with1 A x fun x=>with1 A i fun i=>M.lift (Ax.index l esz n x i)
 | .sindex x i=>with1 A x fun x=>with1 A i fun i=>M.lift (Ax.sindex x i)
 | .field off n x=>with1 A x fun x=>M.lift (Ax.field off n x)
 | .ext i x=>with1 A x fun x=>M.lift (Ax.ext i x)
 | .len x=>with1 A x fun x=>M.lift (vlen x)
 | .slen x=>with1 A x fun x=>M.lift (Ax.slen x)
 | .slice ck esz x lo hi mx=>with1 A x fun x =>
  match zhK A lo,zhK A hi,zhK A mx with | some lo,some hi,some mx=>M.lift (zbr ck esz x lo hi mx) | _,_,_=>M.fail
 | .append ty esz bytes x y=>with1 A x fun x=>with1 A y fun y=>mappend ty esz bytes x y
 | .appendz ty bytes zero x y=>with1 A x fun x=>with1 A y fun y=>mappendz ty bytes zero x y
 | .slice2 esz x lo hi=>with1 A x fun x=>with1 A lo fun lo=>with1 A hi fun hi=>mslice2 esz x lo hi
 | .clear zero x=>with1 A x fun x=>mclear zero x
 | .op1 k x=>with1 A x fun x=>M.lift (Ax.op1 k x)
 | .mknz ty x=>with1 A x fun x=>mmknz ty x
 | .remark ty x=>with1 A x fun x=>mremark ty x
 | .copy esz x y=>with1 A x fun x=>with1 A y fun y=>mcopy esz x y
 | .mkslice ty bytes zero l c=>with1 A l fun l=>with1 A c fun c=>mmkslice ty bytes zero l c
 | .minmax mx x xs=>with1 A x fun x=>withs A xs fun xs=>M.lift (Ax.minmax mx x xs)
 | .call f args=>withs A args fun args=>G f args
 | .callv x args=>with1 A x fun x=>withs A args fun args=>callv G x args
 | .mkfn f caps=>withs A caps fun caps=>M.pure (.fn f caps)
 | .mkmap ty=>mmkmap ty
 | .lookup mk zero ok x k=>with1 A x fun x=>with1 A k fun k=>mlookup mk zero ok x k
 | .mapset mk x k v=>with1 A x fun x=>with1 A k fun k=>with1 A v fun v=>mmapset mk x k v
 | .maplen x=>with1 A x fun x=>mmaplen x
 | .aload k x=>with1 A x fun x=>matoload k x
 | .aadd k x y=>with1 A x fun x=>with1 A y fun y=>matoadd k x y
 | .mdrop p o x n=>with1 A x fun x=>with1 A n fun n=>mmapdrop p o x n
def guarded (A:Fr) (gd:Option (Nat × Bool)) (x:M V):M V :=
 match gd with
 | none=>x
 | some (s,want)=>match A.get s with
  | some (.bool b)=>if b = want then x else M.pure .undef
  | some (.tup [])=>M.pure .undef
  | _=>M.fail
def AO.run (G:Sem') (A:Fr) (o:AO):M V:=guarded A o.gd (I.run G A o.ins)
def step {α:Type} (G:Sem') (o:AO) (A:Fr) (k:V → M α):M α :=
 match o.gd,o.ins with
 | none,.mv x=>(match x.ev A with | some v=>k v | none=>M.fail)
 | _,_=>M.bind (AO.run G A o) k
def opsK {α:Type} (G:Sem'):List AO → Fr → (Fr → M α) → M α
 | [],A,k=>k A
 | o :: os,A,k=>step G o A fun v=>opsK G os (A.put o.dst v) k
def actsK {α:Type} (un:List (Nat × Nat)) (i:Nat) (a:V):List (Nat × Heap × Heap) → M α → M α
 | [],k=>k
 | (j,h,h') :: js,k=>if un.contains (i,j) then M.bind (M.unch a h h') fun _=>actsK un i a js k else actsK un i a js k
def readsK {α:Type} (un:List (Nat × Nat)) (j:Nat) (h h':Heap):List (Nat × V) → M α → M α
 | [],k=>k
 | (i,a) :: rs,k=>if un.contains (i,j) then M.bind (M.unch a h h') fun _=>readsK un j h h' rs k else readsK un j h h' rs k
def with1' {α:Type} (A:Fr) (x:Arg) (k:V → M α):M α:=match x.ev A with | some v=>k v | none=>k .undef
def drawK {α:Type} (G:Sem') (un:List (Nat × Nat)):Nat → List (Nat × V) → List (Nat × Heap × Heap) → List AO → Fr → (Fr → M α) → M α
 | _,_,_,[],A,k=>k A
 | p,rs,js,o :: os,A,k =>
  match o.ins.kind with
  | .read x =>
   if un.any (fun q=>q.1 == p) then
    with1' A x fun a=>step G o A fun v=>actsK un p a js (drawK G un (p + 1) ((p,a) :: rs) js os (A.put o.dst v) k)
   else step G o A fun v=>drawK G un (p + 1) rs js os (A.put o.dst v) k
  | .act =>
   if un.any (fun q=>q.2 == p) then
    M.bind M.getH fun h=>step G o A fun v=>M.bind M.getH fun h'=>readsK un p h h' rs (drawK G un (p + 1) rs ((p,h,h') :: js) os (A.put o.dst v) k)
   else step G o A fun v=>drawK G un (p + 1) rs js os (A.put o.dst v) k
  | _=>step G o A fun v=>drawK G un (p + 1) rs js os (A.put o.dst v) k
def M.join (x:M Res) (k:List V → M Res):M Res:=M.bind x fun r =>
 match r with
 | .nrm L=>k L
 | .ex id L=>M.pure (.ex id L)
 | .ret L=>M.pure (.ret L)
def M.blk (id:Nat) (x:M Res) (k:List V → M Res):M Res:=M.bind x fun r =>
 match r with
 | .nrm L=>k L
 | .ex i L=>if i = id then k L else M.pure (.ex i L)
 | .ret L=>M.pure (.ret L)
def iterN (body:List V → M Res):Nat → List V → M Res
 | 0,_=>M.fail
 | n + 1,L=>M.join (body L) (iterN body n)
def M.iter (body:List V → M Res) (L:List V):M Res:=iterN body 1000000000 L
def resK {α:Type} (A:Fr):List RV → (List V → M α) → M α
 | [],k=>k []
 | .tmp t :: rs,k=>match A.get t with | some v=>resK A rs fun vs=>k (v :: vs) | none=>M.fail
 | .cell t n :: rs,k=>match A.get t with | some a=>M.bind (mload n a) fun v=>resK A rs fun vs=>k (v :: vs) | none=>M.fail
def execK (G:Sem') (rv:List RV):C → List (Nat × List Nat) → List Nat → Fr → M Res
 | .done,_,J,A=>match zeZ A J with | some L=>M.pure (.nrm L) | none=>M.fail
 | .bad,_,_,_=>M.fail
 | .ops l k,cx,J,A=>opsK G l A fun A'=>execK G rv k cx J A'
 | .draw l un k,cx,J,A=>drawK G un 0 [] [] l A fun A'=>execK G rv k cx J A'
 | .cond x a b,cx,J,A=>match x.ev A with | some c=>M.ite c (execK G rv a cx J A) (execK G rv b cx J A) | none=>M.fail
 | .condJ x a b J' W k,cx,J,A=>match x.ev A with
  | some c=>M.join (M.ite c (execK G rv a cx J' A) (execK G rv b cx J' A)) fun L=>execK G rv k cx J (A.join J' W L)
  | none=>M.fail
 | .blk id a J' W k,cx,J,A=>M.blk id (execK G rv a ((id,J') :: cx) J' A) fun L=>execK G rv k cx J (A.join J' W L)
 | .loop a K W,cx,_,A=>match zeZ A K with | some L=>M.iter (fun L=>execK G rv a cx K (A.join K W L)) L | none=>M.fail
 | .exit id,cx,_,A=>match zwG cx id with | some J=>(match zeZ A J with | some L=>M.pure (.ex id L) | none=>M.fail) | none=>M.fail
 | .ret,_,_,A=>resK A rv fun L=>M.pure (.ret L)
def fin (x:M Res):M V:=M.bind x fun r =>
 match r with
 | .ret L=>M.pure (zm3 L)
 | _=>M.fail
/-! It does what the abstract machine does. -/
def Sim {α:Type} (x:M α) (y:Ax.M α):Prop:=∀ c v c',x c = some (v,c') → y c.abs = some (v,c'.abs)
def Sims (g:Sem') (G:Ax.Sem'):Prop:=∀ f args,Sim (g f args) (G f args)
section
variable {α β:Type}
theorem zgy (v:α):Sim (M.pure v) (Ax.M.pure v):=by
 intro c u c' h;simp only [M.pure,Option.some.injEq,Prod.mk.injEq] at h;obtain ⟨rfl,rfl⟩:=h;rfl
theorem zaa {y:Ax.M α}:Sim M.fail y:=by intro c v c' h; cases h
theorem zdM (o:Option V):Sim (M.lift o) (Ax.M.lift o):=by
 intro c u c' h;cases o with
 | none=>cases h
 | some a =>
  simp only [M.lift,zFW,Option.some.injEq,Prod.mk.injEq] at h;obtain ⟨rfl,rfl⟩:=h;rfl
theorem zED {x:M α} {f:α → M β} {c:Heap} {r:β × Heap} (h:M.bind x f c = some r):∃ v c1,x c = some (v,c1) ∧ f v c1 = some r:=by
 simp only [M.bind] at h;cases hx:x c with
 | none=>rw [hx] at h; cases h
 | some q=>rw [hx] at h; exact ⟨q.1,q.2,rfl,h⟩
theorem zma {x:M α} {y:Ax.M α} {f:α → M β} {g:α → Ax.M β} (h:Sim x y) (k:∀ v,Sim (f v) (g v)):Sim (M.bind x f) (y.bind g):=by
 intro c v c' e;obtain ⟨u,c1,h1,h2⟩:=zED e;rw [bind_ok (h c u c1 h1)];exact k u c1 v c' h2
theorem zFc (c:V) {x x':M α} {y y':Ax.M α} (h:Sim x y) (k:Sim x' y'):Sim (M.ite c x x') (Ax.M.ite c y y'):=by
 cases c <;> first | exact zaa | skip
 rename_i b;cases b
 ·exact k
 ·exact h
theorem ldt_eq {n:Option Nat} {b:Bk} {off:Nat} {v:V} (h:ldt n b off = some v):ldc n b.abs.cells off = some v:=by
 cases n with
 | none =>
  simp only [ldt] at h;split at h
  ·rename_i h1;split at h
   ·rename_i h2;injection h with h
    subst h;simp only [ldc,Bk.abs];rw [List.getElem?_take_of_lt h1,CT.get_abs _ _ _ h2]
   ·cases h
  ·cases h
 | some n =>
  simp only [ldt] at h;split at h
  ·rename_i h1;split at h
   ·rename_i h2;injection h with h
    subst h;have hl:off + n ≤ ((CT.abs b.d b.t).take b.n).length:=by rw [List.length_take,CT.abs_len]; omega
    show (if off + n ≤ ((CT.abs b.d b.t).take b.n).length then some (V.agg ((((CT.abs b.d b.t).take b.n).drop off).take n)) else none) = _;rw [if_pos hl,CT.rng_abs _ _ _ _ h2,List.drop_take,List.take_take,Nat.min_eq_left (by omega)]
   ·cases h
  ·cases h
theorem zyD (n:Option Nat) (p:V):Sim (mload n p) (Ax.mload n p):=by
 intro c v c' h;cases p <;> simp only [mload,Ax.mload,Option.bind_eq_some_iff,Option.map_eq_some_iff,Prod.mk.injEq,reduceCtorEq,zjE] at h ⊢
 ·split at h
  ·rename_i b hb;split at h
   ·rename_i u hu;simp only [Option.some.injEq,Prod.mk.injEq] at h;obtain ⟨rfl,rfl⟩:=h;exact ⟨b.abs,by simp only [Heap.get]; rw [show c.t.get _ = some b from hb]; rfl,u,ldt_eq hu,rfl,rfl⟩
   ·cases h
  ·cases h
 ·obtain ⟨u,hu,rfl,rfl⟩:=h; exact ⟨u,hu,rfl,rfl⟩
theorem zE8 (n:Nat) (p x:V):Sim (mstore n p x) (Ax.mstore n p x):=by
 intro c v c' h;cases p <;> simp only [mstore,Ax.mstore,Option.bind_eq_some_iff,reduceCtorEq,zjE] at h ⊢
 rename_i id off;split at h
 ·rename_i b hb;split at h
  ·rename_i hc;obtain ⟨h1,h2,h3,h4⟩:=hc;obtain ⟨t',g1,g2⟩:=CT.sets_abs b.d x.cells b.t off (fun t=>some (V.undef,c.setB id (some { b with t:=t }))) (by omega);rw [g1] at h;simp only [Option.some.injEq,Prod.mk.injEq] at h;obtain ⟨rfl,rfl⟩:=h;have hl:(b.abs.cells).length = min b.n (2 ^ b.d):=by simp only [Bk.abs,List.length_take,CT.abs_len]
   refine ⟨b.abs,by simp only [Heap.get]; rw [show c.t.get _ = some b from hb]; rfl,?_⟩;rw [if_pos ⟨h1,by omega,h4⟩,zzO];have e:(({ b with t:=t' }:Bk).abs) = { b.abs with cells:=splice b.abs.cells off x.cells }:=by
    simp only [Bk.abs,g2,Blk.mk.injEq,true_and,and_true];apply List.ext_getElem?;intro j;rw [zhU _ _ _ (by rw [List.length_take,CT.abs_len]; omega)];by_cases hj:j < b.n
    ·rw [List.getElem?_take_of_lt hj,zhU _ _ _ (by rw [CT.abs_len]; omega),List.getElem?_take_of_lt hj]
    ·rw [List.getElem?_eq_none (by rw [List.length_take]; omega),if_neg (by omega),List.getElem?_eq_none (by rw [List.length_take]; omega)]
   rw [Option.map_some,e]
  ·cases h
 ·cases h
theorem sim_box (ty:TypeId) (x:V):Sim (mbox ty x) (Ax.mbox ty x):=by
 intro c v c' h;simp only [mbox,Ax.mbox,zvb] at h ⊢;split at h
 ·rename_i hc;rw [if_pos hc];simp only [Option.some.injEq,Prod.mk.injEq] at h ⊢;obtain ⟨rfl,rfl⟩:=h;exact ⟨rfl,(zm1 ..).symm⟩
 ·cases h
theorem sim_slit (ty:TypeId) (l:Nat) (z:List V) (ps:List (Nat × Nat × V)):Sim (mslit ty l z ps) (Ax.mslit ty l z ps):=by
 intro c v c' h;simp only [mslit,Ax.mslit,Option.map_eq_some_iff,Prod.mk.injEq,zvb] at h ⊢;obtain ⟨cs,hcs,rfl,rfl⟩:=h;exact ⟨cs,hcs,rfl,(zm1 ..).symm⟩
theorem zxQ (e:Nat) (c:Heap) (v:V):Ax.rcells e c.abs v = rcells e c v:=by cases v <;> rfl
theorem zye (e:Nat) (c:Heap) (v:V):Ax.acells e c.abs v = acells e c v:=by cases v <;> first | rfl | exact zxQ ..
theorem zvn (ty e b:Nat) (q:List V × Nat) (x:V):Sim (mappendq ty e b q x) (Ax.mappendq ty e b q x):=by
 intro c v c' h;simp only [mappendq,Ax.mappendq] at h ⊢;cases x with
 | nils =>
  dsimp only at h ⊢;split at h
  ·rename_i h0;rw [if_pos h0];simp only [Option.some.injEq,Prod.mk.injEq] at h ⊢;exact ⟨h.1,by rw [h.2]⟩
  ·rename_i h0;rw [if_neg h0];split at h
   ·rename_i h1;rw [if_pos h1];simp only [Option.some.injEq,Prod.mk.injEq] at h ⊢;obtain ⟨rfl,rfl⟩:=h;exact ⟨rfl,(zm1 ..).symm⟩
   ·cases h
 | rs cells len =>
  dsimp only at h ⊢;split at h
  ·rename_i h0;rw [if_pos h0];simp only [Option.some.injEq,Prod.mk.injEq] at h ⊢;exact ⟨h.1,by rw [h.2]⟩
  ·cases h
 | sl id off len cap =>
  simp only [Option.bind_eq_some_iff,zjE] at h ⊢;obtain ⟨bl,hb,h⟩:=h;refine ⟨bl,hb,?_⟩;split at h
  ·rename_i h0;rw [if_pos h0];cases cap with
   | fix cc =>
    dsimp only at h ⊢;split at h
    ·rename_i h1;rw [if_pos h1];split at h
     ·rename_i h2;rw [if_pos h2];simp only [Option.some.injEq,Prod.mk.injEq] at h ⊢;obtain ⟨rfl,rfl⟩:=h;exact ⟨rfl,(zo7 ..).symm⟩
     ·cases h
    ·rename_i h1;rw [if_neg h1];split at h
     ·rename_i h2;rw [if_pos h2];simp only [Option.some.injEq,Prod.mk.injEq] at h ⊢;obtain ⟨rfl,rfl⟩:=h;exact ⟨rfl,(zm1 ..).symm⟩
     ·cases h
   | opn ee =>
    dsimp only at h ⊢;split at h
    ·rename_i h1;rw [if_pos h1];split at h
     ·rename_i h2;rw [if_pos h2];simp only [Option.some.injEq,Prod.mk.injEq] at h ⊢;exact ⟨h.1,by rw [h.2]⟩
     ·rename_i h2;rw [if_neg h2];split at h
      ·rename_i h3;rw [if_pos h3];simp only [Option.some.injEq,Prod.mk.injEq] at h ⊢;obtain ⟨rfl,rfl⟩:=h;exact ⟨rfl,by rw [zm1,zo7]⟩
      ·cases h
    ·rename_i h1;rw [if_neg h1];split at h
     ·rename_i h2;rw [if_pos h2];simp only [Option.some.injEq,Prod.mk.injEq] at h ⊢;exact ⟨h.1,by rw [h.2]⟩
     ·rename_i h2;rw [if_neg h2];split at h
      ·rename_i h3;rw [if_pos h3];simp only [Option.some.injEq,Prod.mk.injEq] at h ⊢;obtain ⟨rfl,rfl⟩:=h;exact ⟨rfl,(zo7 ..).symm⟩
      ·cases h
  ·cases h
 | _=>cases h
theorem zDP (ty e b:Nat) (x y:V):Sim (mappend ty e b x y) (Ax.mappend ty e b x y):=by
 intro c v c' h;simp only [mappend,Ax.mappend,Option.bind_eq_some_iff,zye] at h ⊢;obtain ⟨q,hq,h⟩:=h;exact ⟨q,hq,zvn _ _ _ _ _ _ _ _ h⟩
theorem zBX (ty b:Nat) (z:List V) (x y:V):Sim (mappendz ty b z x y) (Ax.mappendz ty b z x y):=by
 intro c v c' h;unfold mappendz at h;unfold Ax.mappendz;split at h
 ·dsimp only at h ⊢;split at h
  ·rename_i h0;rw [if_pos h0];exact zvn _ _ _ _ _ _ _ _ h
  ·cases h
 ·cases h
theorem zDK (e:Nat) (x lo hi:V):Sim (mslice2 e x lo hi) (Ax.mslice2 e x lo hi):=by
 intro c v c' h;unfold mslice2 at h;unfold Ax.mslice2;split at h
 ·simp only [Option.bind_eq_some_iff,zjE] at h ⊢;obtain ⟨bl,hb,h⟩:=h;refine ⟨bl,hb,?_⟩;split at h
  ·rename_i h0;rw [if_pos h0];simp only [Option.some.injEq,Prod.mk.injEq] at h ⊢;exact ⟨h.1,by rw [h.2]⟩
  ·cases h
 ·cases h
theorem zFd (z:List V) (x:V):Sim (mclear z x) (Ax.mclear z x):=by
 intro c v c' h;unfold mclear at h;unfold Ax.mclear;split at h
 ·dsimp only at h ⊢;split at h
  ·rename_i h0;rw [if_pos h0];simp only [Option.some.injEq,Prod.mk.injEq] at h ⊢;exact ⟨h.1,by rw [h.2]⟩
  ·rename_i h0;rw [if_neg h0];simp only [Option.bind_eq_some_iff,zjE] at h ⊢;obtain ⟨bl,hb,h⟩:=h;refine ⟨bl,hb,?_⟩;split at h
   ·rename_i h1;rw [if_pos h1];simp only [Option.some.injEq,Prod.mk.injEq] at h ⊢;obtain ⟨rfl,rfl⟩:=h;exact ⟨rfl,(zo7 ..).symm⟩
   ·cases h
 ·cases h
theorem sim_mknz (ty:TypeId) (x:V):Sim (mmknz ty x) (Ax.mmknz ty x):=by
 intro c v c' h;unfold mmknz at h;unfold Ax.mmknz;split at h
 ·split at h
  ·rename_i hc;simp only [Option.some.injEq,Prod.mk.injEq] at h;obtain ⟨rfl,rfl⟩:=h;simp only [if_pos hc,zm1,zvb]
  ·cases h
 ·cases h
theorem sim_copy (e:Nat) (x y:V):Sim (mcopy e x y) (Ax.mcopy e x y):=by
 intro c v c' h;simp only [mcopy,Ax.mcopy,Option.bind_eq_some_iff,zye] at h ⊢;obtain ⟨q,hq,h⟩:=h;refine ⟨q,hq,?_⟩;cases x with
 | nils =>
  simp only [Option.some.injEq,Prod.mk.injEq] at h ⊢;exact ⟨h.1,by rw [h.2]⟩
 | sl id off len cap =>
  simp only [Option.bind_eq_some_iff,zjE] at h ⊢;obtain ⟨bl,hb,h⟩:=h;refine ⟨bl,hb,?_⟩;split at h
  ·rename_i h0;rw [if_pos h0];simp only [Option.some.injEq,Prod.mk.injEq] at h ⊢;obtain ⟨rfl,rfl⟩:=h;exact ⟨rfl,(zo7 ..).symm⟩
  ·cases h
 | _=>cases h
theorem zE7 (x:V):Sim (mtostr x) (Ax.mtostr x):=by
 intro c v c' h;simp only [mtostr,Ax.mtostr,Option.bind_eq_some_iff,Option.map_eq_some_iff,Prod.mk.injEq,zxQ] at h ⊢;obtain ⟨q,hq,l,hl,rfl,rfl⟩:=h;exact ⟨q,hq,l,hl,rfl,rfl⟩
theorem zvm (ty:TypeId) (x:V):Sim (mtobytes ty x) (Ax.mtobytes ty x):=by
 intro c v c' h;unfold mtobytes at h;unfold Ax.mtobytes;split at h
 ·dsimp only at h ⊢;split at h
  ·rename_i h0;rw [if_pos h0];simp only [Option.some.injEq,Prod.mk.injEq] at h ⊢;obtain ⟨rfl,rfl⟩:=h;exact ⟨rfl,(zm1 _ _).symm⟩
  ·cases h
 ·cases h
theorem zBV (ty b:Nat) (z:List V) (l k:V):Sim (mmkslice ty b z l k) (Ax.mmkslice ty b z l k):=by
 intro c v c' h;unfold mmkslice at h;unfold Ax.mmkslice;split at h
 ·rename_i a b';dsimp only at h ⊢;split at h
  ·rename_i h0;rw [if_pos h0];simp only [Option.some.injEq,Prod.mk.injEq] at h ⊢;obtain ⟨rfl,rfl⟩:=h;exact ⟨rfl,(zm1 ..).symm⟩
  ·cases h
 ·cases h
theorem zCZ (v:V) (h h':Heap):Sim (M.unch v h h') (Ax.M.unch v h.abs h'.abs):=by
 intro c u c' e;unfold M.unch at e;unfold Ax.M.unch;cases hp:v.pid with
 | none =>
  rw [hp] at e;simp only [Option.some.injEq,Prod.mk.injEq] at e;obtain ⟨_,rfl⟩:=e;rw [if_pos (by intro id h; cases h)]
 | some id =>
  rw [hp] at e;dsimp only at e;split at e
  ·rename_i hs;simp only [Option.some.injEq,Prod.mk.injEq] at e;obtain ⟨_,rfl⟩:=e;rw [if_pos];intro i hi;simp only [Option.some.injEq] at hi;subst hi;exact sameB_eq hs
  ·cases e
theorem zDL (ty:TypeId) (x:V):Sim (mremark ty x) (Ax.mremark ty x):=by
 intro c v c' h;unfold mremark at h;unfold Ax.mremark;split at h
 ·exact zvm _ _ _ _ _ h
 ·simp only [Option.bind_eq_some_iff,zjE] at h ⊢;obtain ⟨bl,hb,h⟩:=h;refine ⟨bl,hb,?_⟩;split at h
  ·cases h
  ·rename_i h0;rw [if_neg h0];simp only [Option.some.injEq,Prod.mk.injEq] at h ⊢;exact ⟨h.1,by rw [h.2]⟩
 ·cases h
theorem zFb (ty:TypeId):Sim (mmkmap ty) (Ax.mmkmap ty):=by
 intro c v c' h;simp only [mmkmap,Ax.mmkmap,Option.some.injEq,Prod.mk.injEq,zvb] at h ⊢;obtain ⟨rfl,rfl⟩:=h;exact ⟨rfl,(zm1 ..).symm⟩
theorem zDO (mk:MK) (z:V) (ok:Bool) (x k:V):Sim (mlookup mk z ok x k) (Ax.mlookup mk z ok x k):=by
 intro c v c' h;cases x <;> simp only [mlookup,Ax.mlookup,Option.bind_eq_some_iff,reduceCtorEq,zjE] at h ⊢
 obtain ⟨b,hb,h⟩:=h;refine ⟨b,hb,?_⟩;split at h
 ·rename_i hc;rw [if_pos hc];simp only [Option.map_eq_some_iff,Prod.mk.injEq] at h ⊢;obtain ⟨u,hu,h1,rfl⟩:=h;exact ⟨u,hu,h1,rfl⟩
 ·cases h
theorem zDM (mk:MK) (x k u:V):Sim (mmapset mk x k u) (Ax.mmapset mk x k u):=by
 intro c v c' h;cases x <;> simp only [mmapset,Ax.mmapset,Option.bind_eq_some_iff,reduceCtorEq,zjE] at h ⊢
 obtain ⟨b,hb,h⟩:=h;refine ⟨b,hb,?_⟩;split at h
 ·rename_i hc;rw [if_pos hc];simp only [Option.map_eq_some_iff,Prod.mk.injEq] at h ⊢;obtain ⟨cs,hcs,rfl,rfl⟩:=h;exact ⟨cs,hcs,rfl,(zo7 ..).symm⟩
 ·cases h
theorem zBW (p:Bool) (o:Nat) (x n:V):Sim (mmapdrop p o x n) (Ax.mmapdrop p o x n):=by
 intro c v c' h;unfold mmapdrop at h;unfold Ax.mmapdrop;split at h
 ·rename_i id off n;simp only [Option.bind_eq_some_iff] at h;obtain ⟨b0,hb0,h⟩:=h;simp only [zjE,hb0,Option.bind_some];split at h
  ·rename_i i hi;simp only [Option.bind_eq_some_iff,Option.map_eq_some_iff,Prod.mk.injEq] at h;obtain ⟨b,hb,cs,hcs,rfl,rfl⟩:=h;rw [hi];simp only [hb,hcs,Option.bind_some,Option.map_some,zo7]
  ·cases h
 ·cases h
theorem zDN (x:V):Sim (mmaplen x) (Ax.mmaplen x):=by
 intro c v c' h;cases x <;> simp only [mmaplen,Ax.mmaplen,Option.map_eq_some_iff,Prod.mk.injEq,reduceCtorEq,zjE] at h ⊢
 obtain ⟨b,hb,rfl,rfl⟩:=h;exact ⟨b,hb,rfl,rfl⟩
theorem zFe (k:IntKind) (x:V):Sim (matoload k x) (Ax.matoload k x):=by
 intro c v c' h;unfold matoload at h;unfold Ax.matoload;simp only [Option.bind_eq_some_iff] at h ⊢;obtain ⟨⟨u,c1⟩,h1,h⟩:=h;refine ⟨_,zyD _ _ _ _ _ h1,?_⟩;cases u <;> simp only [reduceCtorEq] at h
 dsimp only;split at h
 ·rename_i hk;rw [if_pos hk];simp only [Option.some.injEq,Prod.mk.injEq] at h ⊢;exact ⟨h.1,by rw [h.2]⟩
 ·cases h
theorem sim_aadd (k:IntKind) (x y:V):Sim (matoadd k x y) (Ax.matoadd k x y):=by
 intro c v c' h;unfold matoadd at h;unfold Ax.matoadd;split at h
 ·simp only [Option.bind_eq_some_iff,zjE] at h ⊢;obtain ⟨b,hb,h⟩:=h;refine ⟨b,hb,?_⟩;split at h
  ·rename_i k2 n hc;rw [hc];dsimp only;split at h
   ·rename_i hk;rw [if_pos hk];simp only [Option.some.injEq,Prod.mk.injEq] at h ⊢;obtain ⟨rfl,rfl⟩:=h;exact ⟨rfl,(zo7 ..).symm⟩
   ·cases h
  ·cases h
 ·cases h
theorem zE9 {g:Sem'} {G:Ax.Sem'} (hg:Sims g G) (A:Fr) (ins:I):Sim (I.run g A ins) (ins.run G A):=by
 have w1:∀ (x:Arg) {k:V → M V} {k':V → Ax.M V},(∀ v,Sim (k v) (k' v)) → Sim (with1 A x k) (Ax.with1 A x k'):=by
  intro x k k' h;unfold with1 Ax.with1;cases x.ev A with
  | none=>exact zaa
  | some v=>exact h v
 have ws:∀ (x:List Arg) {k:List V → M V} {k':List V → Ax.M V},(∀ v,Sim (k v) (k' v)) → Sim (withs A x k) (Ax.withs A x k'):=by
  intro x k k' h;unfold withs Ax.withs;cases evs A x with
  | none=>exact zaa
  | some v=>exact h v
 cases ins <;> simp only [I.run,Ax.I.run]
 case mv x=>exact w1 x zgy
 case pick c a b=>exact w1 _ fun _=>w1 _ fun _=>w1 _ fun _=>zdM _
 case box=>exact w1 _ fun _=>sim_box _ _
 case build z ps=>cases zdK A ps <;> first | exact zaa | exact zdM _
 case slit z ps=>cases zdK A ps <;> first | exact zaa | exact sim_slit _ _ _ _
 case load=>exact w1 _ fun _=>zyD _ _
 case store=>exact w1 _ fun _=>w1 _ fun _=>zE8 _ _ _
 case nilck=>exact w1 _ fun _=>zdM _
 case bin=>exact w1 _ fun _=>w1 _ fun _=>zdM _
 case eq=>exact w1 _ fun _=>w1 _ fun _=>zdM _
 case un=>exact w1 _ fun _=>zdM _
 case cint=>exact w1 _ fun _=>zdM _
 case tostr=>exact w1 _ fun _=>zE7 _
 case tobytes=>exact w1 _ fun _=>zvm _ _
 case faddr=>exact w1 _ fun _=>zdM _
 case iaddr=>exact w1 _ fun _=>w1 _ fun _=>zdM _
 case index=>exact w1 _ fun _=>w1 _ fun _=>zdM _
 case sindex=>exact w1 _ fun _=>w1 _ fun _=>zdM _
 case field=>exact w1 _ fun _=>zdM _
 case ext=>exact w1 _ fun _=>zdM _
 case len=>exact w1 _ fun _=>zdM _
 case slen=>exact w1 _ fun _=>zdM _
 case slice ck e x lo hi mx =>
  refine w1 _ fun _=>?_;cases zhK A lo <;> cases zhK A hi <;> cases zhK A mx <;> first | exact zaa | exact zdM _
 case append=>exact w1 _ fun _=>w1 _ fun _=>zDP _ _ _ _ _
 case appendz=>exact w1 _ fun _=>w1 _ fun _=>zBX _ _ _ _ _
 case copy=>exact w1 _ fun _=>w1 _ fun _=>sim_copy _ _ _
 case mkslice=>exact w1 _ fun _=>w1 _ fun _=>zBV _ _ _ _ _
 case slice2=>exact w1 _ fun _=>w1 _ fun _=>w1 _ fun _=>zDK _ _ _ _
 case clear=>exact w1 _ fun _=>zFd _ _
 case op1=>exact w1 _ fun _=>zdM _
 case mknz=>exact w1 _ fun _=>sim_mknz _ _
 case remark=>exact w1 _ fun _=>zDL _ _
 case minmax=>exact w1 _ fun _=>ws _ fun _=>zdM _
 case call=>exact ws _ fun _=>hg _ _
 case callv =>
  refine w1 _ fun v=>ws _ fun _=>?_;cases v <;> first | exact zaa | exact hg _ _
 case mkfn=>exact ws _ fun _=>zgy _
 case mkmap=>exact zFb _
 case lookup=>exact w1 _ fun _=>w1 _ fun _=>zDO _ _ _ _ _
 case mapset=>exact w1 _ fun _=>w1 _ fun _=>w1 _ fun _=>zDM _ _ _ _
 case mdrop=>exact w1 _ fun _=>w1 _ fun _=>zBW _ _ _ _
 case maplen=>exact w1 _ fun _=>zDN _
 case aload=>exact w1 _ fun _=>zFe _ _
 case aadd=>exact w1 _ fun _=>w1 _ fun _=>sim_aadd _ _ _
theorem sim_ao {g:Sem'} {G:Ax.Sem'} (hg:Sims g G) (A:Fr) (o:AO):Sim (AO.run g A o) (o.run G A):=by
 unfold AO.run Ax.AO.run guarded Ax.guarded;cases o.gd with
 | none=>exact zE9 hg A o.ins
 | some p =>
  obtain ⟨s,want⟩:=p;dsimp only;cases A.get s with
  | none=>exact zaa
  | some v =>
   cases v with
   | bool b =>
    dsimp only;by_cases hb:b = want
    ·simp only [if_pos hb]; exact zE9 hg A o.ins
    ·simp only [if_neg hb]; exact zgy _
   | tup vs =>
    cases vs with
    | nil=>exact zgy _
    | cons _ _=>exact zaa
   | _=>exact zaa
theorem zkM {g:Sem'} {G:Ax.Sem'} (hg:Sims g G) (A:Fr) (o:AO) {k:V → M α} {k':V → Ax.M α} (h:∀ v,Sim (k v) (k' v)):Sim (step g o A k) (Ax.step G o A k'):=by
 have hr:=zma (sim_ao hg A o) h;obtain ⟨d,gd,ins⟩:=o;cases gd with
 | some _=>exact hr
 | none =>
  cases ins <;> first | exact hr | skip
  rename_i x;show Sim (match x.ev A with | some v=>k v | none=>M.fail) (match x.ev A with | some v=>k' v | none=>Ax.M.fail);cases x.ev A with
  | none=>exact zaa
  | some v=>exact h v
theorem sim_ops {g:Sem'} {G:Ax.Sem'} (hg:Sims g G) {k:Fr → M α} {k':Fr → Ax.M α} (h:∀ A,Sim (k A) (k' A)):∀ (l:List AO) (A:Fr),Sim (opsK g l A k) (Ax.opsK G l A k'):=by
 intro l
 induction l with
 | nil=>intro A; exact h A
 | cons o l ih=>intro A; exact zkM hg A o fun v=>ih _
def absJ (js:List (Nat × Heap × Heap)):List (Nat × Ax.Heap × Ax.Heap):=js.map fun q=>(q.1,q.2.1.abs,q.2.2.abs)
theorem zC2 {un:List (Nat × Nat)} {i:Nat} {a:V} {k:M α} {k':Ax.M α} (h:Sim k k'):∀ js,Sim (actsK un i a js k) (Ax.actsK un i a (absJ js) k'):=by
 intro js
 induction js with
 | nil=>exact h
 | cons q js ih =>
  obtain ⟨j,h1,h2⟩:=q;show Sim (if un.contains (i,j) then M.bind (M.unch a h1 h2) fun _=>actsK un i a js k else actsK un i a js k)
   (if un.contains (i,j) then (Ax.M.unch a h1.abs h2.abs).bind fun _=>Ax.actsK un i a (absJ js) k' else Ax.actsK un i a (absJ js) k')
  split
  ·exact zma (zCZ _ _ _) fun _=>ih
  ·exact ih
theorem zFa {un:List (Nat × Nat)} {j:Nat} {h1 h2:Heap} {k:M α} {k':Ax.M α} (h:Sim k k'):∀ rs,Sim (readsK un j h1 h2 rs k) (Ax.readsK un j h1.abs h2.abs rs k'):=by
 intro rs
 induction rs with
 | nil=>exact h
 | cons q rs ih =>
  obtain ⟨i,a⟩:=q;show Sim (if un.contains (i,j) then M.bind (M.unch a h1 h2) fun _=>readsK un j h1 h2 rs k else readsK un j h1 h2 rs k)
   (if un.contains (i,j) then (Ax.M.unch a h1.abs h2.abs).bind fun _=>Ax.readsK un j h1.abs h2.abs rs k' else Ax.readsK un j h1.abs h2.abs rs k')
  split
  ·exact zma (zCZ _ _ _) fun _=>ih
  ·exact ih
theorem zC1 {f:Heap → M α} {f':Ax.Heap → Ax.M α} (h:∀ c,Sim (f c) (f' c.abs)):Sim (M.bind M.getH f) (Ax.M.getH.bind f'):=by
 intro c v c' e;exact h c c v c' e
theorem sim_draw {g:Sem'} {G:Ax.Sem'} (hg:Sims g G) {un:List (Nat × Nat)} {k:Fr → M α} {k':Fr → Ax.M α} (h:∀ A,Sim (k A) (k' A)):∀ (l:List AO) (p:Nat) (rs:List (Nat × V)) (js:List (Nat × Heap × Heap)) (A:Fr),
  Sim (drawK g un p rs js l A k) (Ax.drawK G un p rs (absJ js) l A k'):=by
 intro l
 induction l with
 | nil=>intro p rs js A; exact h A
 | cons o l ih =>
  intro p rs js A;unfold drawK Ax.drawK;cases hk:o.ins.kind with
  | read x =>
   dsimp only;split
   ·unfold with1' zcF.with1';cases x.ev A with
    | none=>exact zkM hg A o fun v=>zC2 (ih _ _ _ _) js
    | some a=>exact zkM hg A o fun v=>zC2 (ih _ _ _ _) js
   ·exact zkM hg A o fun v=>ih _ _ _ _
  | act =>
   dsimp only;split
   ·exact zC1 fun h1=>zkM hg A o fun v=>zC1 fun h2=>zFa (ih _ _ ((p,h1,h2) :: js) _) rs
   ·exact zkM hg A o fun v=>ih _ _ _ _
  | pure=>exact zkM hg A o fun v=>ih _ _ _ _
  | new=>exact zkM hg A o fun v=>ih _ _ _ _
theorem zC0 {x:M Res} {y:Ax.M Res} {k:List V → M Res} {k':List V → Ax.M Res} (h:Sim x y) (hk:∀ L,Sim (k L) (k' L)):Sim (M.join x k) (Ax.M.join y k'):=by
 refine zma h fun r=>?_;cases r with
 | nrm L=>exact hk L
 | ex id L=>exact zgy _
 | ret L=>exact zgy _
theorem sim_blk {id:Nat} {x:M Res} {y:Ax.M Res} {k:List V → M Res} {k':List V → Ax.M Res} (h:Sim x y) (hk:∀ L,Sim (k L) (k' L)):Sim (M.blk id x k) (Ax.M.blk id y k'):=by
 refine zma h fun r=>?_;cases r with
 | nrm L=>exact hk L
 | ex i L =>
  dsimp only;by_cases e:i = id
  ·simp only [if_pos e]; exact hk L
  ·simp only [if_neg e]; exact zgy _
 | ret L=>exact zgy _
theorem sim_iter {body:List V → M Res} {b:List V → Ax.M Res} (h:∀ L,Sim (body L) (b L)) (L:List V):Sim (M.iter body L) (Ax.M.iter b L):=by
 have key:∀ (n:Nat) (L:List V),Sim (iterN body n L) (Ax.iterN b n L):=by
  intro n
  induction n with
  | zero=>intro L; exact zaa
  | succ n ih=>intro L; exact zC0 (h L) ih
 intro c v c' e;exact zvU (key _ L c v c' e)
theorem sim_res {A:Fr}:∀ (rv:List RV) {k:List V → M α} {k':List V → Ax.M α},(∀ L,Sim (k L) (k' L)) → Sim (resK A rv k) (Ax.resK A rv k'):=by
 intro rv
 induction rv with
 | nil=>intro k k' h; exact h []
 | cons x rv ih =>
  intro k k' h;cases x with
  | tmp t =>
   simp only [resK,Ax.resK];cases A.get t with
   | none=>exact zaa
   | some v=>exact ih fun vs=>h _
  | cell t n =>
   simp only [resK,Ax.resK];cases A.get t with
   | none=>exact zaa
   | some v=>exact zma (zyD _ _) fun u=>ih fun vs=>h _
theorem sim_exec {g:Sem'} {G:Ax.Sem'} (hg:Sims g G) (rv:List RV):∀ (c:C) (cx:List (Nat × List Nat)) (J:List Nat) (A:Fr),Sim (execK g rv c cx J A) (Ax.execK G rv c cx J A):=by
 intro c
 induction c with
 | done=>intro cx J A; simp only [execK,Ax.execK]; cases zeZ A J <;> first | exact zaa | exact zgy _
 | bad=>intro cx J A; exact zaa
 | ops l k ih=>intro cx J A; exact sim_ops hg (fun A'=>ih _ _ _) l A
 | draw l un k ih=>intro cx J A; exact sim_draw hg (fun A'=>ih _ _ _) l 0 [] [] A
 | cond x a b iha ihb =>
  intro cx J A;simp only [execK,Ax.execK];cases x.ev A with
  | none=>exact zaa
  | some c=>exact zFc c (iha _ _ _) (ihb _ _ _)
 | condJ x a b J' W k iha ihb ihk =>
  intro cx J A;simp only [execK,Ax.execK];cases x.ev A with
  | none=>exact zaa
  | some c=>exact zC0 (zFc c (iha _ _ _) (ihb _ _ _)) fun L=>ihk _ _ _
 | blk id a J' W k iha ihk=>intro cx J A; exact sim_blk (iha _ _ _) fun L=>ihk _ _ _
 | loop a K W iha =>
  intro cx J A;simp only [execK,Ax.execK];cases zeZ A K with
  | none=>exact zaa
  | some L=>exact sim_iter (fun L=>iha _ _ _) L
 | exit id =>
  intro cx J A;simp only [execK,Ax.execK];cases zwG cx id with
  | none=>exact zaa
  | some J=>dsimp only; cases zeZ A J <;> first | exact zaa | exact zgy _
 | ret=>intro cx J A; exact sim_res rv fun L=>zgy _
theorem sim_fin {x:M Res} {y:Ax.M Res} (h:Sim x y):Sim (fin x) (Ax.fin y):=by
 refine zma h fun r=>?_;cases r with
 | ret L=>exact zgy _
 | _=>exact zaa
end
theorem zaf {T:FuncId → Option Fn'} {f:FuncId} {ir:Fn'} (hT:T f = some ir) {args:List V} (hl:args.length ≤ ir.ntmps) {g:Sem'} (hg:Sims g (sem T)) {x:M Res} (hx:execK g ir.rv ir.body [] [] (params 0 args) = x):Sim (fin x) (sem T f args):=by
 intro c v c' h;refine zC3 hT hl rfl ?_;exact sim_fin (hx ▸ sim_exec hg ir.rv ir.body [] [] (params 0 args)) c v c' h
theorem zab {α:Type} {p:Prop} [Decidable p] {x x':M α} {y:Ax.M α} (h:p → Sim x y) (k:Sim x' y):Sim (if p then x else x') y:=by
 by_cases hp:p
 ·rw [if_pos hp]; exact h hp
 ·rw [if_neg hp]; exact k
def noF:Fn':=⟨0,[],.bad⟩
end Go.Ax.Cc
