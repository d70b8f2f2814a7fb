/-
  Texts of mine, put together by program (wip/slim.py), for law_deskJoins: part 8.
-/
import Derived.Test.YthghlbdejdideaaGreatZj7
import Derived.Test.YthghlbdejdideaaGreatProg
noncomputable section
set_option linter.unusedVariables false
set_option linter.unusedSimpArgs false
set_option linter.defProp false
set_option maxRecDepth 100000
/- FnS0 -/
namespace Go.Ax
open Go.Proofs
def ze4:TypeId:=3
def zaw:TypeId:=5
def zcL:TypeId:=22
def zaf:TypeId:=31
def zar:TypeId:=33
def zao:TypeId:=36
def za2:TypeId:=44
def zkV:TypeId:=49
def zbv:TypeId:=69
def zab:TypeId:=71
def zhm:TypeId:=140
def zdV:TypeId:=211
def zcX:TypeId:=213
def zi5:TypeId:=225
def zac:TypeId:=229
def zbT:TypeId:=249
def zcU:TypeId:=417
def zdD:FuncId:=3
def zdF:FuncId:=15
def zb3:FuncId:=48
def zbC:FuncId:=49
def zaU:FuncId:=16
def zaF:FuncId:=19
def zc4:FuncId:=50
def zba:FuncId:=51
def zaR:FuncId:=85
def zbG:FuncId:=130
def zbp:FuncId:=86
def zcx:FuncId:=131
def zbJ:FuncId:=82
def zb0:FuncId:=128
def zcv:FuncId:=129
def zbr:FuncId:=87
def zdo:FuncId:=132
def zdR:FuncId:=200
def zc3:FuncId:=46
def zcz:FuncId:=83
def zcw:FuncId:=84
def zjM:FuncId:=88
def zdg:FuncId:=89
def zkD:FuncId:=133
def zjh:FuncId:=201
def zlA:FuncId:=278
def zca:FuncId:=150
def zfQ:FuncId:=279
def zgq:FuncId:=280
def zfh:FuncId:=281
def zfB:FuncId:=282
def zgz:FuncId:=134
def zg9:FuncId:=202
def zg5:FuncId:=68
def zg7:FuncId:=203
def zlD:FuncId:=283
def zhL:FuncId:=284
def ziG:FuncId:=318
def zg4:FuncId:=354
def zbO:FuncId:=353
def zb5:FuncId:=147
def za4:FuncId:=236
def zhd:FuncId:=135
def zgy:FuncId:=204
def zgw:FuncId:=285
def zkH:FuncId:=335
def zlM:FuncId:=336
def zjs:FuncId:=337
def zhg:FuncId:=348
def zg6:FuncId:=286
def zfj:FuncId:=148
def zkE:FuncId:=237
def zbB:FuncId:=320
def zbK:FuncId:=355
def ziF:FuncId:=321
def zlE:FuncId:=322
def zlB:FuncId:=357
def zkC:FuncId:=356
def zbI:FuncId:=358
def zbN:FuncId:=364
def zjj:FuncId:=359
def zlz:FuncId:=323
def zmt:FuncId:=324
def zji:FuncId:=360
def zlC:FuncId:=137
def zgs:FuncId:=208
def zhc:FuncId:=136
def zjm:FuncId:=206
def zhO:FuncId:=205
def zmz:FuncId:=287
def zgx:FuncId:=207
def zdE:FuncId:=90
def zlx:FuncId:=138
def znZ:FuncId:=209
def zhK:FuncId:=210
def zmp:FuncId:=288
def zjg:FuncId:=338
def zfT:FuncId:=139
def ziH:FuncId:=140
def zjn:FuncId:=211
def zhP:FuncId:=212
def zlK:FuncId:=141
def zms:FuncId:=142
def zpx:FuncId:=213
def zmq:FuncId:=290
def zcg:FuncId:=289
def ziK:FuncId:=143
def zlN:FuncId:=214
def zfE:FuncId:=215
def zfD:FuncId:=216
def zfW:FuncId:=291
def zfX:FuncId:=224
def zdN:FuncId:=217
def zdM:FuncId:=292
def zfl:FuncId:=221
def zfk:FuncId:=222
def ze1:FuncId:=293
def zfV:FuncId:=294
def zfm:FuncId:=339
def zkI:FuncId:=362
def zhf:FuncId:=295
def zjr:FuncId:=218
def zhR:FuncId:=296
def zgA:FuncId:=341
def zc2:FuncId:=340
def zdA:FuncId:=363
def zhS:FuncId:=297
def zjp:FuncId:=342
def zhW:FuncId:=299
def zel:FuncId:=300
def ziJ:FuncId:=310
def zbf:FuncId:=298
def zbk:FuncId:=343
def ziI:FuncId:=219
def zgB:FuncId:=220
def zhT:FuncId:=301
def zeI:FuncId:=344
def zfC:FuncId:=223
def zmv:FuncId:=144
def zcE:FuncId:=225
def zc7:FuncId:=302
def zdT:FuncId:=91
def zmx:FuncId:=145
def zc9:FuncId:=226
def zcO:FuncId:=227
def zgu:FuncId:=146
def zly:FuncId:=228
def zmr:FuncId:=303
def zkB:FuncId:=346
def zjf:FuncId:=347
def zb2:FuncId:=345
def zlw:FuncId:=305
def znY:FuncId:=304
def ziE:FuncId:=306
def zjq:FuncId:=229
def zlL:FuncId:=307
def zjo:FuncId:=308
def zeH:FuncId:=309
def zfS:FuncId:=230
def zn2:FuncId:=311
def zgt:FuncId:=312
def zkx:FuncId:=313
def zkw:FuncId:=349
def zhN:FuncId:=231
def zlJ:FuncId:=314
def zhV:FuncId:=350
def zn1:FuncId:=315
def zmw:FuncId:=316
def zmo:FuncId:=232
def zhU:FuncId:=234
def zn0:FuncId:=233
def zkA:FuncId:=317
def zc8:FuncId:=351
def zcP:FuncId:=352
def zhM:FuncId:=235
def zb1:FuncId:=319
def za1:FuncId:=52
def zds:FuncId:=92
def za9:FuncId:=149
def zbW:FuncId:=151
def zfv:FuncId:=238
def za5:FuncId:=239
def zcA:FuncId:=240
def zbX:FuncId:=93
def zbe:FuncId:=152
def zcB:FuncId:=241
def zb6:FuncId:=94
def zdS:FuncId:=153
def zdn:FuncId:=242
def za3:FuncId:=325
def zdq:FuncId:=243
def zdp:FuncId:=326
def zcV:FuncId:=154
def zdB:FuncId:=244
def zcc:FuncId:=155
def zek:FuncId:=95
def zkF:FuncId:=156
def zjk:FuncId:=163
def zkz:FuncId:=246
def zky:FuncId:=327
def zjl:FuncId:=251
def zha:FuncId:=97
def zdC:FuncId:=164
def zlG:FuncId:=157
def zje:FuncId:=245
def zg8:FuncId:=158
def zhb:FuncId:=159
def zhe:FuncId:=247
def zfU:FuncId:=329
def zcy:FuncId:=328
def zc1:FuncId:=330
def zmy:FuncId:=248
def zmu:FuncId:=331
def zgv:FuncId:=249
def zhQ:FuncId:=160
def zlH:FuncId:=161
def zlI:FuncId:=250
def zej:FuncId:=53
def zlF:FuncId:=96
def zkG:FuncId:=162
def zbq:FuncId:=54
def zaZ:FuncId:=98
def zbt:FuncId:=24
def zb4:FuncId:=58
def zbw:FuncId:=101
def zaJ:FuncId:=27
def zbh:FuncId:=62
def zal:FuncId:=61
def zaA:FuncId:=102
def zax:FuncId:=103
def zav:FuncId:=104
def zbg:FuncId:=105
def zaS:FuncId:=66
def zbj:FuncId:=18
def zbs:FuncId:=25
def zbx:FuncId:=59
def zaT:FuncId:=17
def zaG:FuncId:=26
def zau:FuncId:=60
def zfR:FuncId:=20
def zda:FuncId:=21
def zgr:FuncId:=55
def zeY:FuncId:=56
def zeZ:FuncId:=99
def zeJ:FuncId:=100
def ze0:FuncId:=22
def zd3:FuncId:=57
def zd4:FuncId:=23
def zaV:FuncId:=4
def zdK:FuncId:=5
def zfi:FuncId:=28
def zdL:FuncId:=6
def zdr:FuncId:=7
def hintRows:List (Nat × List (List Nat)):=[
 (zdD,[[15,16],[15,16],[15,16],[15,16],[15],[15,19],[15],[0,1,2,3,4,5,6,7,8,9,10,11,12,13,14,15],[15],[15,16],[16],[10]]),
 (zdF,[[],[6],[],[0,1,3,4,2,5,6]]),
 (zb3,[]),
 (zbC,[]),
 (zaU,[]),
 (zaF,[[],[],[],[],[0,1,2,3,4,5,6,7,8,9,10,11,12]]),
 (zc4,[]),
 (zba,[]),
 (zaR,[[]]),
 (zbG,[]),
 (zbp,[[],[10],[]]),
 (zcx,[]),
 (zbJ,[[],[9],[]]),
 (zb0,[[],[10],[]]),
 (zcv,[]),
 (zbr,[[0,1,2,3,4,5,6,7,8,9,10,11,12,14,15,16,13]]),
 (zdo,[]),
 (zdR,[]),
 (zc3,[[],[19],[],[0,1,2,3,4,5,6,7,8,9,10,11,12,13,14,15,16,17,18,19,20,21,22,23,24,25,26,27,28,29,30,31,32]]),
 (zcz,[]),
 (zcw,[[3],[3,11],[3],[3]]),
 (zjM,[]),
 (zdg,[[],[30],[],[],[],[],[],[],[56],[],[],[],[72],[]]),
 (zkD,[[4],[0,4],[0,4],[0,1,2,3,4,5,6,7,8,9,10,11,12,13,14,16,17,15,18],[0,1,2,3,4,5,6,7,8,9,10,11,12],[]]),
 (zjh,[[0,1,2,3,4,5,6,7,8,9,10,11,12,13,14,15],[],[],[]]),
 (zlA,[[]]),
 (zca,[]),
 (zfQ,[]),
 (zgq,[[5],[5,28],[5]]),
 (zfh,[[5],[5,8],[5]]),
 (zfB,[[],[],[],[4],[],[0,1,2,3,4,5,8,6,9,7,10,11,12,13,14,15,16],[],[],[5],[],[],[0,1,2,3,4,5,7,6,8,9,10,11,12,13,14,15],[],[],[94],[],[0,1,2,3,4,5,6,7,8,9,10,11]]),
 (zgz,[[],[39],[],[0,1,2,3,4,5,6,7,8,9,12,10,11]]),
 (zg9,[[],[16],[]]),
 (zg5,[]),
 (zg7,[[5],[5,13],[5],[5]]),
 (zlD,[[3],[3,9],[3],[3],[3,18],[3],[3]]),
 (zhL,[]),
 (ziG,[]),
 (zg4,[]),
 (zbO,[[],[8],[]]),
 (zb5,[[],[0,1,2,3,4,5,6,7,8,9,10,11,12]]),
 (za4,[[0,1,2,3,4,5,6,7,8,9,10],[0,1,2,3,4,5,6,7,8,9]]),
 (zhd,[]),
 (zgy,[[],[9,10]]),
 (zgw,[]),
 (zkH,[]),
 (zlM,[]),
 (zjs,[]),
 (zhg,[]),
 (zg6,[[0,1,2,3,4,5,6,7,8,9,10,11]]),
 (zfj,[]),
 (zkE,[[4],[4,19],[4]]),
 (zbB,[]),
 (zbK,[[],[8],[]]),
 (ziF,[]),
 (zlE,[[],[20],[0,1,2,3,4,5,6,7,8,9,10,11,12,13,14]]),
 (zlB,[[],[],[0,1,2,3,4,5,6,7,8,9,10,11,12,13,14,15,16,17,18,19],[],[],[0,1,2,3,4,5,6,7],[],[],[0,1,2,3,4,5,6,7],[],[0,1,2,3,4,5,6,7,8,9,10,11,12,13,14,15],[0,1,2,3,4,5,6,7,8,9,10,11]]),
 (zkC,[]),
 (zbI,[]),
 (zbN,[[],[8],[]]),
 (zjj,[]),
 (zlz,[[2],[2],[2,78],[2],[0,1,2,3,5,6,7,4,8,9],[2],[2,98],[2],[0,1,2,3,5,6,4,7,8,9],[2],[2,136],[2],[0,2,3,4,5,1,6,7,8],[2],[0,1,2,4,5,6,3,7,8,9],[2],[2,33],[2],[0,1,2,4,5,6,3,7,8,9],[0,1,2,3,4,5,6,7,8]]),
 (zmt,[[0],[0,7],[0]]),
 (zji,[[0],[0,11],[0],[0],[0,40],[0]]),
 (zlC,[[],[0,1,2,3,4,5,6,7,8]]),
 (zgs,[[0,2],[0,2],[0,2]]),
 (zhc,[[0,1,2,3,4,5,6,7,8,9,10,11],[12],[12,35],[12],[]]),
 (zjm,[[5,6],[5,6,11],[5,6],[5],[6]]),
 (zhO,[]),
 (zmz,[]),
 (zgx,[[]]),
 (zdE,[]),
 (zlx,[[],[5],[],[6],[],[0,1,2,3,4,5,6,7,8,9,10,11],[0,1,2,3,4,5,6,7,8,9,10,11,14,15,17,18,12,16,19,13,20,21,22],[]]),
 (znZ,[[3],[3,8],[3]]),
 (zhK,[[0,1,2,3,4,5,6,7,8,9,10,11,12]]),
 (zmp,[[6],[1,6],[1,6]]),
 (zjg,[[8,9],[9]]),
 (zfT,[[],[16],[]]),
 (ziH,[[0,1,2,3,4,5,6,7,8,9]]),
 (zjn,[]),
 (zhP,[[6],[6,16],[6]]),
 (zlK,[]),
 (zms,[]),
 (zpx,[]),
 (zmq,[]),
 (zcg,[[],[8],[]]),
 (ziK,[[0,1,2,3,4,5,6],[],[],[],[],[],[],[],[0,1,2,3,4,5,6,7,8,9,10,11],[],[],[],[0,1,2,3,4,5,6],[],[]]),
 (zlN,[]),
 (zfE,[]),
 (zfD,[]),
 (zfW,[[6],[6,20],[6],[0,1,2,3,4,5,6,7,8,9,10,11,12,13,14,15,16,17,18,19,20,21,22,23],[]]),
 (zfX,[[0,1,2,3,4,5,6,7,8,9,10,11]]),
 (zdN,[[],[],[89],[],[0,1,2,5,3,6,4,7,8,9,10,11,12],[],[],[72],[],[0,1,2,3,4,5,6,7,8,9],[],[57],[],[0,1,2,3,4,5,6,7,8,9],[],[35],[],[0,1,2,3,4,5,6,7],[],[19],[],[0,1,2,3,4,5,6,7,8,9]]),
 (zdM,[[3],[3],[3],[],[],[],[],[0,1,2,3,4,5,6,7,8,9,10,11,12,13,14,15,16]]),
 (zfl,[[]]),
 (zfk,[[7],[7,9],[7]]),
 (ze1,[[3],[3],[3]]),
 (zfV,[]),
 (zfm,[]),
 (zkI,[[0,1,2,3,4,5,6]]),
 (zhf,[[3],[3,9],[3]]),
 (zjr,[[],[71],[],[3]]),
 (zhR,[]),
 (zgA,[]),
 (zc2,[]),
 (zdA,[[],[8],[]]),
 (zhS,[[],[12],[]]),
 (zjp,[[]]),
 (zhW,[]),
 (zel,[]),
 (ziJ,[]),
 (zbf,[]),
 (zbk,[[],[8],[]]),
 (ziI,[]),
 (zgB,[]),
 (zhT,[[0,1,3,4,6,7,2,5,8,9,10,11,12,13,14]]),
 (zeI,[]),
 (zfC,[[3],[3,4],[3]]),
 (zmv,[]),
 (zcE,[]),
 (zc7,[[],[8],[]]),
 (zdT,[[],[61],[],[],[],[],[0,1,2,3,4,5,6,7,8,9,10,11],[],[0,1,2,3,4,5,6,7],[0,1,2,3,4,5,6,7,8,9,10,11,12,13,14,15,16,17,18,19,20,21,23,24,22,25],[0,1,2,3,4,5,6,7,8,9,10,11,12,13],[],[],[0,1,2,3,4,5,6,7,8,9,10,11],[0,1,2,3,4,5,6,7,8]]),
 (zmx,[[6],[6,7],[6],[6]]),
 (zc9,[]),
 (zcO,[[],[2,3],[],[0,1,2,3,4,5,6,7,8,9,10,11,12,13,14,15]]),
 (zgu,[[0,1,2,3,4,5,6,7,8,9,10,11],[0,1,2,3,4,5,6,8,7],[0,1,2,3,4,5,6,7,8,9,10,11,15,16,12,13,14,17,18,19],[],[0,1,2,3,4,5,6,7,8,9,10]]),
 (zly,[[4],[4],[4],[4,27],[4],[0,1,2,4,5,3,6,7],[0,2,3,4,1,5,6]]),
 (zmr,[[]]),
 (zkB,[]),
 (zjf,[]),
 (zb2,[]),
 (zlw,[[4],[3],[3],[0,1,2,3,4,5,6,7,8,9]]),
 (znY,[[0],[0,7],[0]]),
 (ziE,[[3],[3],[3],[3],[3,9],[3],[3]]),
 (zjq,[[]]),
 (zlL,[]),
 (zjo,[]),
 (zeH,[[],[13],[],[0,1,2,3,4,5,6,7,8]]),
 (zfS,[[],[0,1,2,3,4,5,6,7,8,9,10,11,12,13],[]]),
 (zn2,[[0,1,2,3,4,5,6],[]]),
 (zgt,[]),
 (zkx,[[],[0,1,2,3,4,8,5,6,7,9,10,11]]),
 (zkw,[]),
 (zhN,[[],[0,1,2,3,4,5,6,7,8,9,10,11,12,13],[0,1,2,3,4,5,6,7,8,9,10,11,12,13,14],[0,1,2,3,4,5,6,7,8,9,10,11,12,13,14,15]]),
 (zlJ,[[10,13],[10,11,12,13,23],[10,11,12,13],[10,11,12,13]]),
 (zhV,[[4,5,6],[4,5,6,25],[4,5,6],[4,5,6],[0,1,2,3,4,5,6,7,8,9,10]]),
 (zn1,[]),
 (zmw,[[],[11],[]]),
 (zmo,[[],[],[0,1,2,3,4,5,6,7,8,9],[9]]),
 (zhU,[[]]),
 (zn0,[[0,1,2,3,4,5,6,7]]),
 (zkA,[[],[19],[],[0,1,2,3,4,5,6,7,8,9,10,11,12],[0,1,3,4,6,7,2,5,8,9,10,11,12,13,14]]),
 (zc8,[]),
 (zcP,[]),
 (zhM,[[],[0,1,2,3,4,5,6,7,8,9,10,11,12,13],[]]),
 (zb1,[[0,1,2,3,4,5,6,7]]),
 (za1,[[],[7],[7],[7],[7],[],[7]]),
 (zds,[[],[0,2,3,1,4,5],[0,1,2,3,4,5,6,7,8,9,10,11,12,14,16,13,15,17,18,19,20]]),
 (za9,[[0,1,2,3,4,5,6,7,8,9,10,11,12,13]]),
 (zbW,[[]]),
 (zfv,[[],[27],[23],[13],[8],[8]]),
 (za5,[]),
 (zcA,[[],[9],[]]),
 (zbX,[]),
 (zbe,[[]]),
 (zcB,[[4],[4,31],[4]]),
 (zb6,[[0,1,2,3,4,5,6,7,8,9,11,10,12,13],[12],[12,48],[12],[12],[0,1,2,3,4,5,6,7,8,9,10,11,14,15,12,13,16,17],[0,1,2,3,4,5,6]]),
 (zdS,[[0,1,2,3,4,5,6,8,7,9,10],[0,1,2,3,4,5],[]]),
 (zdn,[]),
 (za3,[[],[8],[]]),
 (zdq,[[0,1,2,3,4,5,6],[]]),
 (zdp,[]),
 (zcV,[]),
 (zdB,[]),
 (zcc,[[],[16],[],[],[0,1,2,3,4,5,6,7,8,9,10]]),
 (zek,[[11],[11],[0,1,2,3,4,5,6,7,8,9,10,11,12,14,15,16,13,17],[11],[0,1,2,3,4,5,6,7,8,9,10,11,12,13,14,16,17,18,15,19],[11],[0,1,2,3,4,5,6,7,8],[0,1,2,3,4,5,6,7,8,9],[11],[],[0,1,2,3,4,5,6,7,8,9,10,13,14,15,11,12,16,17],[0,1,2,3,4,5,6,7,8,9,10,11,12,13,14,15]]),
 (zkF,[]),
 (zjk,[[0,1,2,3,5,4,6,7,8,10,11,9,12]]),
 (zkz,[[]]),
 (zky,[]),
 (zjl,[[]]),
 (zha,[[],[88],[],[0,1,2,3,4,6,7,8,9,10,5,11,12,13],[],[41],[],[],[45],[],[0,1,2,3,4,5,6,7,8,9,11,12,13,10,14,15],[6],[6,18],[6],[6]]),
 (zdC,[]),
 (zlG,[]),
 (zje,[]),
 (zg8,[[],[0,1,2,3,4,5,6,7,8],[0,1,2,3,4,5,6,7,8,9,10,11,12,13,14,15,16,17,18,19,20,21,22,23,24,25,26]]),
 (zhb,[[9],[0,1,2,3,4,5,6,7,8,9,10,11,12,13,14,15,16,17,18,19,20,21,22,23,24],[0,1,2,3,4,5,6,7,8,9],[0,1,2,3,4,5,6,7,8,9],[],[0,1,2,3,4,5,6,7,8,9,10]]),
 (zhe,[]),
 (zfU,[]),
 (zcy,[[],[8],[]]),
 (zc1,[[0,1,2,3,4,5,6,7]]),
 (zmy,[]),
 (zmu,[]),
 (zgv,[]),
 (zhQ,[[0,1,2,3,4,5,6,7,8,9,10,11,12,13,14,15,16,17,18],[],[0,1,2,3,4,5,6,7,8,9,10,11,12,13,14,15,16],[0,1,2,3,4,5,6,7,8,9,10]]),
 (zlH,[]),
 (zlI,[[0,1,2,3,4,5,6],[]]),
 (zej,[[],[15],[],[0,1,2,3,4,5,6,7,8,9,10,11,13,14,15,12]]),
 (zlF,[[11],[11,71],[11],[11],[],[26],[],[],[0,1,2,3,4,5,6,7]]),
 (zkG,[]),
 (zbq,[[7],[7,11],[7]]),
 (zaZ,[]),
 (zbt,[]),
 (zb4,[]),
 (zbw,[]),
 (zaJ,[]),
 (zbh,[[0,1,2,3,4,6,7,5,8,9,10]]),
 (zal,[[],[139],[4]]),
 (zaA,[[],[20],[17],[10],[6],[6]]),
 (zax,[]),
 (zav,[[],[5],[]]),
 (zbg,[[],[3],[]]),
 (zaS,[[7],[7,8],[7]]),
 (zbj,[]),
 (zbs,[]),
 (zbx,[]),
 (zaT,[[0,1,2,3,4,5,6,7,8,9,10,11,12,13,14,15,16]]),
 (zaG,[[],[0,1,2,3,4,5,6,7,8,9,10,11,12,14,16,13,15,17,18,19,20]]),
 (zau,[[0,1,2,3,4,5,6,7,8,9,10,11,12,13]]),
 (zfR,[]),
 (zda,[[4],[4,5],[4,5],[0,1,2,3,4,5,6,7,8,9,10,11,12,13,14,15,16,17,18,19,20,21,22,24,25,23,26]]),
 (zgr,[[7],[7,8],[7]]),
 (zeY,[[],[13],[],[0,1,2,3,4,5,6,7,8,9],[],[],[10],[],[0,1,2,3,6,7,8,4,9,5,10,11,12,13,14,15],[],[11],[],[0,1,2,3,6,7,8,9,10,4,5,11,12,13,14,15]]),
 (zeZ,[]),
 (zeJ,[[],[10],[],[0,1,2,3,6,7,8,9,10,11,12,13,16,17,18,21,22,23,26,27,28,31,32,33,4,14,19,24,29,34,5,15,20,25,30,35,36,37,38,39,40],[],[8]]),
 (ze0,[[11],[6],[0,1,2,3,4,5,6,7,8,9,10,11,12,13,14],[],[7],[],[0,1,2,3,4,5,6,7,8,9,10,11],[0,1,2,3,4,5,6,7,8,9,12,15,10,13,16,11,14,17,18,19,20]]),
 (zd3,[[6],[6,7],[6,7],[8,9,10],[0,1,2,3,4,5,6,7,8,9,10,11,12,13,14,15,16,17],[9]]),
 (zd4,[[3],[3,4],[3]]),
 (zaV,[[],[7,8],[7],[],[18],[],[0,1,2,3,4,5,6,7,8,9,10,11,12,13,14,15,16,17,18,19,20],[10],[10,11],[10]]),
 (zdK,[[],[20],[],[],[0,1,2,3,4,5,6,7,8,9,10,11,12],[],[],[15],[],[],[12],[]]),
 (zfi,[]),
 (zdL,[[],[11],[],[],[7],[]]),
 (zdr,[[],[21],[],[],[26],[],[24,25],[14,18],[14,18,19],[14,18],[14,18],[],[15],[],[],[],[13],[],[],[10],[]])]
def hintOf:List (Nat × List (List Nat)) → FuncId → List (List Nat)
 | [],_=>[]
 | (g,h) :: l,f=>if g = f then h else hintOf l f
noncomputable def T:FuncId → Option Fn':=table Tryz.prog (hintOf hintRows)
noncomputable def irOf (f:FuncId):Fn':=(T f).getD ⟨0,[],.bad⟩
theorem sound:zfF Tryz.prog (sem T):=sem_ok _ _
end Go.Ax
/- Su3 -/
namespace Go.Ax.SU
open Go.Ax
theorem or256 (a b:Nat) (h:b < 256):a * 256 ||| b = a * 256 + b:=by
 have:=Nat.shiftLeft_add_eq_or_of_lt (i:=8) (b:=b) h a;rw [Nat.shiftLeft_eq] at this;exact this.symm
abbrev By (lo:Nat) (H:Heap) (v:V) (l:List Nat):Prop:=Lc 1 lo H v (l.map by8) l.length
theorem zhY {lo:Nat} {H:Heap} {v:V} {l:List Nat} (h:By lo H v l) {i:Int} (h0:0 ≤ i) (h1:i < l.length):∃ p,(∀ {k:IntKind},Ax.iaddr none 1 v (.int k i) = some p) ∧ LdR none H p (.int .u8 (l.getD i.toNat 0:Nat)) ∧ p.pid = v.pid:=by
 obtain ⟨p,hp,hl⟩:=h.at h0 h1;have hi:i.toNat < l.length:=by omega
 have e:((l.map by8).drop (i.toNat * 1)).take 1 = [by8 l[i.toNat]]:=by
  rw [Nat.mul_one,← List.map_drop,List.drop_eq_getElem_cons hi]; rfl
 rw [e] at hl;refine ⟨p,hp,fun f Q=>?_,hl.pid.1⟩;rw [hl.ld0 (by simp)];have hg:l.getD i.toNat 0 = l[i.toNat]:=by rw [List.getD_eq_getElem?_getD,List.getElem?_eq_getElem hi]; rfl
 rw [hg]; exact b_lift
theorem zne {lo:Nat} {H:Heap} {v:V} {l:List Nat} (h:By lo H v l) {x y:Int} (h0:0 ≤ x) (h1:x ≤ y) (h2:y ≤ l.length) :
  ∃ v',(∀ {k k':IntKind},zbA .sl 1 v (some (.int k x)) (some (.int k' y)) none = some v') ∧ (x = 0 → ∀ {k':IntKind},zbA .sl 1 v none (some (.int k' y)) none = some v') ∧ (y = l.length → ∀ {k:IntKind},zbA .sl 1 v (some (.int k x)) none none = some v') ∧
   By lo H v' ((l.drop x.toNat).take (y.toNat - x.toNat)) ∧ v'.pid = v.pid:=by
 obtain ⟨v',a,b,c,d,e⟩:=h.slice h0 h1 h2;refine ⟨v',a,b,c,?_,e⟩;have hl:((l.drop x.toNat).take (y.toNat - x.toNat)).length = y.toNat - x.toNat:=by rw [List.length_take,List.length_drop]; omega
 have:=d;rw [Nat.mul_one,Nat.mul_one,← List.map_drop,← List.map_take] at this;unfold By;rw [hl]; exact this
theorem zoE {l:List Nat} {i:Nat} (h:i < l.length):l.take (i + 1) = l.take i ++ [l.getD i 0]:=by
 rw [List.take_add_one,List.getElem?_eq_getElem h,List.getD_eq_getElem?_getD,List.getElem?_eq_getElem h]; rfl
theorem okb_copy {β:Type} {ty e bytes m:Nat} {H:Heap} {y:V} {q:List V} {f:V → M β} {Q:β → Heap → Prop} (hy:zbS e H y = some (q,m)) (hp:∀ id,y.pid = some id → id < H.next) (hq:q.length = m * e)
  (hb:m * bytes ≤ 140737488355328) (hm:m ≤ 140737488355328)
  (k:∀ x' H',App ty e H.next H' x' q m → Grow H H' → Ok (f x') H' Q):Ok ((zaC ty e bytes (.sl H.next 0 0 (.fix 0)) y).bind f) (H.new ⟨ty,[],none⟩) Q:=by
 have ha:App ty e H.next (H.new ⟨ty,[],none⟩) (.sl H.next 0 0 (.fix 0)) [] 0:=.lit (zad _ _) (Nat.le_refl _) (by rw [zag]; omega);refine zka ha (by rw [zag]; omega) (by rw [zp6 fun i hi=>zaX _ _ (by have:=hp i hi; omega)]; exact hy) hq (by simpa using hb) (by omega) fun x' H' h hs=>?_;refine k x' H' (by simpa using h) ⟨by have:=hs.next; rw [zag] at this; omega,fun i hi=>?_⟩;rw [hs.same i (by rw [zag]; omega) (by simp [V.pid]; omega),zaX _ _ (by omega)]
theorem App.keep {ty e lo n:Nat} {H H':Heap} {v:V} {cells:List V} (h:App ty e lo H v cells n) (k:Keep lo H H'):App ty e lo H' v cells n:=by
 cases h with
 | opn h ho=>exact .opn (h.to fun i hi=>k.same i (ho i hi).1 (ho i hi).2) fun i hi=>⟨(ho i hi).1,Nat.lt_of_lt_of_le (ho i hi).2 k.next⟩
 | lit h h0 h1=>exact .lit (by rw [k.same _ h0 h1,h]) h0 (Nat.lt_of_lt_of_le h1 k.next)
inductive Apf (ty e lo:Nat) (H:Heap):V → List V → Nat → Prop
 | app {v:V} {cells:List V} {n:Nat} (h:App ty e lo H v cells n):Apf ty e lo H v cells n
 | full {id n:Nat} {cells:List V} (h:H.get id = some ⟨ty,cells,none⟩) (hl:cells.length = n * e) (h0:lo ≤ id) (h1:id < H.next):Apf ty e lo H (.sl id 0 n (.fix n)) cells n
theorem Apf.lc {ty e lo n:Nat} {H:Heap} {v:V} {cells:List V} (h:Apf ty e lo H v cells n):Lc e lo H v cells n:=by
 cases h with
 | app h=>exact h.lc
 | full h hl h0 h1 =>
  refine ⟨?_,fun id hi=>by simp only [V.pid,Option.some.injEq] at hi; subst hi; exact ⟨h0,h1⟩,Nat.le_refl _⟩;simp only [za7,h,Option.bind_some];rw [if_pos (by omega),List.drop_zero,List.take_of_length_le (by omega)]
theorem Apf.keep {ty e lo n:Nat} {H H':Heap} {v:V} {cells:List V} (h:Apf ty e lo H v cells n) (k:Keep lo H H'):Apf ty e lo H' v cells n:=by
 cases h with
 | app h=>exact .app (App.keep h k)
 | full h hl h0 h1=>exact .full (by rw [k.same _ h0 h1,h]) hl h0 (Nat.lt_of_lt_of_le h1 k.next)
structure Bel (lo:Nat) (H H':Heap):Prop where
 next:H.next ≤ H'.next
 same:∀ i,i < lo → H'.get i = H.get i
theorem Bel.refl (lo:Nat) (H:Heap):Bel lo H H:=⟨Nat.le_refl _,fun _ _=>rfl⟩
theorem Bel.trans {lo:Nat} {H H1 H2:Heap} (h:Bel lo H H1) (k:Bel lo H1 H2):Bel lo H H2:=⟨Nat.le_trans h.next k.next,fun i hi=>by rw [k.same i hi,h.same i hi]⟩
theorem _root_.Go.Ax.Grow.bel {H H':Heap} (h:Grow H H') {lo:Nat} (hl:lo ≤ H.next):Bel lo H H':=⟨h.next,fun i hi=>h.same i (by omega)⟩
theorem Bel.grow {H H':Heap} (h:Bel H.next H H'):Grow H H':=⟨h.next,fun i hi=>h.same i hi⟩
theorem _root_.Go.Ax.Grow.bel' {H0 H H':Heap} {lo:Nat} (h0:Grow H0 H) (hl:H0.next ≤ lo) (h:Bel lo H H'):Grow H0 H':=⟨Nat.le_trans h0.next h.next,fun i hi=>by rw [h.same i (by omega),h0.same i hi]⟩
theorem okb_apf {β:Type} {ty e bytes lo n m:Nat} {H:Heap} {x y:V} {cells q:List V} {f:V → M β} {Q:β → Heap → Prop} (hx:Apf ty e lo H x cells n) (hlo:lo ≤ H.next) (hy:zbS e H y = some (q,m)) (hq:q.length = m * e)
  (hb:(n + m) * bytes ≤ 140737488355328) (hm:n + m ≤ 140737488355328)
  (k:∀ x' H',Apf ty e lo H' x' (cells ++ q) (n + m) → Bel lo H H' → Step H H' x.pid.toList x'.pid.toList → Ok (f x') H' Q):Ok ((zaC ty e bytes x y).bind f) H Q:=by
 cases hx with
 | app h =>
  refine zka h hlo hy hq hb hm fun x' H' h1 hs=>k x' H' (.app h1) ⟨hs.next,fun i hi=>hs.same i (by omega) fun e=>?_⟩ hs;have:=(h.lc.own i (by simpa [zd2] using e)).1;omega
 | full h hl h0 h1 =>
  rename_i id;have hml:n + m ≤ maxLen:=Nat.le_trans hm zfy;by_cases hz:m = 0
  ·subst hz;have hq0:q = []:=List.eq_nil_of_length_eq_zero (by omega);subst hq0;refine zan ⟨.sl id 0 n (.fix n),H.set id (some ⟨ty,cells,none⟩),?_,k _ _ ?_ ⟨by rw [zbR]; exact Nat.le_refl _,fun i hi=>zaD _ _ (by omega)⟩ (Step.set _ (by simp [V.pid]))⟩
   ·simp only [zaC,hy,Option.bind_some,zbo,h];rw [if_pos ⟨by omega,trivial⟩];simp only [Nat.add_zero,Nat.le_refl,if_true];rw [if_pos (by omega)];simp [splice]
   ·rw [List.append_nil];exact .full (zaY _ _ _) hl h0 h1
  ·refine zan ⟨.sl H.next 0 (n + m) (.opn e),H.new ⟨ty,cells ++ q,some e⟩,?_,?_⟩
   ·simp only [zaC,hy,Option.bind_some,zbo,h];rw [if_pos ⟨by omega,trivial⟩,if_neg (by omega),if_pos ⟨hb,hml⟩,List.drop_zero,List.take_of_length_le (by omega)]
   ·refine k _ _ (.app (.opn (.inr ⟨H.next,rfl,zad _ _,by simp [hl,hq,Nat.add_mul]⟩) fun i hi=>?_)) ⟨by rw [zag]; omega,fun i hi=>zaX _ _ (by omega)⟩ ⟨by rw [zag]; omega,fun i hi _=>zaX _ _ (by omega),fun i hi=>.inr (by simp only [V.pid,Option.toList_some,List.mem_singleton] at hi; subst hi; exact ⟨Nat.le_refl _,by rw [zag]; omega⟩)⟩;simp only [V.pid,Option.some.injEq] at hi;subst hi;exact ⟨hlo,by rw [zag]; omega⟩
def bn (k n:Nat):List Nat:=(List.range k).map fun i=>n / 256 ^ (k - 1 - i) % 256
theorem znf (k n:Nat):(bn k n).length = k:=by simp [bn]
theorem bn_get (k n i:Nat) (h:i < k):(bn k n).getD i 0 = n / 256 ^ (k - 1 - i) % 256:=by
 rw [List.getD_eq_getElem?_getD,List.getElem?_eq_getElem (by rw [znf]; exact h)]; simp [bn]
abbrev Ab (lo:Nat) (H:Heap) (v:V) (l:List Nat):Prop:=Apf zaw 1 lo H v (l.map by8) l.length
theorem Ab.by {lo:Nat} {H:Heap} {v:V} {l:List Nat} (h:Ab lo H v l):By lo H v l:=h.lc
theorem zo3 {β:Type} {lo:Nat} {H:Heap} {x y:V} {l m:List Nat} {f:V → M β} {Q:β → Heap → Prop} (hx:Ab lo H x l) (hlo:lo ≤ H.next) (hy:zbS 1 H y = some (m.map by8,m.length)) (hm:l.length + m.length ≤ 1099511627776)
  (k:∀ x' H',Ab lo H' x' (l ++ m) → Bel lo H H' → Step H H' x.pid.toList x'.pid.toList → Ok (f x') H' Q):Ok ((zaC zaw 1 1 x y).bind f) H Q:=by
 refine okb_apf hx hlo hy (by simp) (by omega) (by omega) fun x' H' h1 h2=>k x' H' ?_ h2;show Apf zaw 1 lo H' x' ((l ++ m).map by8) (l ++ m).length;rw [List.map_append,List.length_append]; exact h1
theorem zlc {β:Type} {lo:Nat} {H:Heap} {x y:V} {l m:List Nat} {f:V → M β} {Q:β → Heap → Prop} (hx:Ab lo H x l) (hlo:lo ≤ H.next) (hy:zbS 1 H y = some (m.map by8,m.length)) (hm:l.length + m.length ≤ 1099511627776)
  (k:∀ x' H',Ab lo H' x' (l ++ m) → Bel lo H H' → Ok (f x') H' Q):Ok ((zaC zaw 1 1 x y).bind f) H Q :=
 zo3 hx hlo hy hm fun x' H' h1 h2 _=>k x' H' h1 h2
end Go.Ax.SU
/- Su5 -/
namespace Go.Ax.SU
open Go.Ax
inductive PH
 | err (e:Nat)
 | ok (kid ctr n:Nat)
end Go.Ax.SU
/- Ax26 -/
namespace Go.Ax
section
variable {b w:Bool} {v x y:V} {α β:Type} {H:Heap} {f:V → M β} {Q:β → Heap → Prop}
end
theorem zb8 {α β:Type} {x:M α} {H:Heap} {f:α → M β} {Q:β → Heap → Prop}:@OkB α β x H ⟨f⟩ ⟨Q⟩ = Ok (x.bind f) H Q:=rfl
end Go.Ax
/- FnS1 -/
namespace Go.Ax
open Go.Proofs
def uL (o:Option V) (f:V → M Res):M Res:=(M.lift o).bind f
def uM (p:V) (f:V → M Res):M Res:=(zam none p).bind f
def uS (n:Nat) (p:V) (f:V → M Res):M Res:=(zam (some n) p).bind f
def uT (n:Nat) (p v:V) (f:V → M Res):M Res:=(zdf n p v).bind f
def uF (k:Nat) (p:V) (f:V → M Res):M Res:=(M.lift (Ax.faddr k p)).bind f
def uFM (k:Nat) (p:V) (f:V → M Res):M Res:=(M.lift (Ax.faddr k p)).bind fun a=>(zam none a).bind f
def uNFM (k:Nat) (p:V) (f:V → M Res):M Res:=(M.lift (Ax.nilck p)).bind fun a=>(M.lift (Ax.faddr k a)).bind fun b=>(zam none b).bind f
def uNF (k:Nat) (p:V) (f:V → M Res):M Res:=(M.lift (Ax.nilck p)).bind fun a=>(M.lift (Ax.faddr k a)).bind f
def uE (k:Nat) (p:V) (f:V → M Res):M Res:=(M.lift (Ax.ext k p)).bind f
def uN (p:V) (f:V → M Res):M Res:=(M.lift (Ax.nilck p)).bind f
def uB (b:BinOp) (x y:V) (f:V → M Res):M Res:=(M.lift (Ax.bin b x y)).bind f
def uI (n:Option Nat) (e:Nat) (p i:V) (f:V → M Res):M Res:=(M.lift (Ax.iaddr n e p i)).bind f
def uIM (n:Option Nat) (e:Nat) (p i:V) (f:V → M Res):M Res:=(M.lift (Ax.iaddr n e p i)).bind fun a=>(zam none a).bind f
def uG (c:V) (b:Bool) (x:M V) (f:V → M Res):M Res:=(zbd [(0,c)] (some (0,b)) x).bind f
def uH (c:V) (b:Bool) (o:Option V) (f:V → M Res):M Res:=(zbd [(0,c)] (some (0,b)) (M.lift o)).bind f
def uO (t:TypeId) (x:V) (f:V → M Res):M Res:=(mbox t x).bind f
def uU (p:V) (h k:Heap) (f:Unit → M Res):M Res:=(M.unch p h k).bind f
def uc (n:Int):V:=.int .i64 n
def ub (n:Int):V:=.int .u8 n
def uq (n:Int):V:=.int .u64 n
def ug (L:List V) (n:Nat):V:=L.getD n .undef
abbrev OkT (f:FuncId) (us:List V) (x:M Res):Prop:=∀ {H:Heap} {Q:V → Heap → Prop},Ok x H (fun r H'=>∃ L,r = .ret L ∧ Q (ze5 L) H') → Ok (sem T f us) H Q
theorem okT {f:FuncId} {us:List V} {x:M Res} (hT:T f = some (irOf f)) (hl:Nat.ble us.length (irOf f).ntmps = true) (hx:zdd (sem T) (irOf f).rv (irOf f).body [] [] (params 0 us) = x):OkT f us x:=fun h=>ok_sem hT (Nat.le_of_ble_eq_true hl) hx h
def zfn (G:Sem') (t1 t0:V) (L:List V):M Res :=
 uB .lss (ug L 0) (uc 64) fun t7 =>
 M.ite t7
 (M.blk 1 (
 uNF 1470 t1 fun t13 =>
 (G zbC [(uc 32)]).bind fun t11 =>
 uI (some 64) 1 t13 (ug L 0) fun t14 =>
 uT 1 t14 t11 fun _ =>
 M.pure (.nrm [])) fun _ =>
 uB .add (ug L 0) (uc 1) fun t15 =>
 M.pure (.nrm [t15]))
 (M.pure (.ex 0 []))
def zjQ (G:Sem'):M Res :=
 let p:=V.int .u32 0
 (G zb3 [(uc 11)]).bind fun t3 =>
 uL (Ax.build [(V.bool false),(V.bool false),(V.bool false),(V.bool false),(V.bool false),(V.bool false),(V.bool false),(V.bool false),(uc 0),(uc 0),(uc 0),(uc 0),(uc 0),(uc 0),(uc 0),(uc 0),(uc 0),(V.bool false),(uc 0),(uc 0),(uc 0),(uc 0),(uc 0),(uc 0),(uc 0),(uc 0),(uc 0),(uc 0),(uc 0),(uc 0),(uc 0),(uc 0),(uc 0),(uc 0),(uc 0),(uc 0),(uc 0),(uc 0),(V.bool false),(V.bool false),p,(uc 0),(uc 0),(uc 0),V.nils,(uc 0),V.nils,V.nils,p,V.nils,(V.bool false),p,(uc 0),(uc 0),(uc 0),V.nils,(uc 0),V.nils,V.nils,p,V.nils,(V.bool false),p,(uc 0),(uc 0),(uc 0),V.nils,(uc 0),V.nils,V.nils,p,V.nils,(V.bool false),p,(uc 0),(uc 0),(uc 0),V.nils,(uc 0),V.nils,V.nils,p,V.nils,(V.bool false),p,(uc 0),(uc 0),(uc 0),V.nils,(uc 0),V.nils,V.nils,p,V.nils,(V.bool false),p,(uc 0),(uc 0),(uc 0),V.nils,(uc 0),V.nils,V.nils,p,V.nils,(V.bool false),p,(uc 0),(uc 0),(uc 0),V.nils,(uc 0),V.nils,V.nils,p,V.nils,(V.bool false),p,(uc 0),(uc 0),(uc 0),V.nils,(uc 0),V.nils,V.nils,p,V.nils,(V.bool false),p,(uc 0),(uc 0),(uc 0),V.nils,(uc 0),V.nils,V.nils,p,V.nils,(V.bool false),p,(uc 0),(uc 0),(uc 0),V.nils,(uc 0),V.nils,V.nils,p,V.nils,(V.bool false),p,(uc 0),(uc 0),(uc 0),V.nils,(uc 0),V.nils,V.nils,p,V.nils,(V.bool false),p,(uc 0),(uc 0),(uc 0),V.nils,(uc 0),V.nils,V.nils,p,V.nils,(V.bool false),p,(uc 0),(uc 0),(uc 0),V.nils,(uc 0),V.nils,V.nils,p,V.nils,(V.bool false),p,(uc 0),(uc 0),(uc 0),V.nils,(uc 0),V.nils,V.nils,p,V.nils,(V.bool false),p,(uc 0),(uc 0),(uc 0),V.nils,(uc 0),V.nils,V.nils,p,V.nils,(V.bool false),p,(uc 0),(uc 0),(uc 0),V.nils,(uc 0),V.nils,V.nils,p,V.nils,(V.bool false),p,(uc 0),(uc 0),(uc 0),V.nils,(uc 0),V.nils,V.nils,p,V.nils,(V.bool false),p,(uc 0),(uc 0),(uc 0),V.nils,(uc 0),V.nils,V.nils,p,V.nils,(V.bool false),p,(uc 0),(uc 0),(uc 0),V.nils,(uc 0),V.nils,V.nils,p,V.nils,(V.bool false),p,(uc 0),(uc 0),(uc 0),V.nils,(uc 0),V.nils,V.nils,p,V.nils,(V.bool false),p,(uc 0),(uc 0),(uc 0),V.nils,(uc 0),V.nils,V.nils,p,V.nils,(V.bool false),p,(uc 0),(uc 0),(uc 0),V.nils,(uc 0),V.nils,V.nils,p,V.nils,(V.bool false),p,(uc 0),(uc 0),(uc 0),V.nils,(uc 0),V.nils,V.nils,p,V.nils,(V.bool false),p,(uc 0),(uc 0),(uc 0),V.nils,(uc 0),V.nils,V.nils,p,V.nils,V.nilp,V.nilp,V.nilp,V.nilp,V.nilp,V.nilp,V.nilp,V.nilp,V.nilp,V.nilp,V.nilp,V.nilp,V.nilp,V.nilp,V.nilp,V.nilp,V.nilp,V.nilp,V.nilp,V.nilp,V.nilp,V.nilp,V.nilp,V.nilp,V.nilp,V.nilp,V.nilp,V.nilp,V.nilp,V.nilp,V.nilp,V.nilp,V.nilp,V.nilp,V.nilp,V.nilp,V.nilp,V.nilp,V.nilp,V.nilp,V.nilp,V.nilp,V.nilp,V.nilp,V.nilp,V.nilp,V.nilp,V.nilp,V.nilp,V.nilp,V.nilp,V.nilp,V.nilp,V.nilp,V.nilp,V.nilp,V.nilp,V.nilp,V.nilp,V.nilp,V.nilp,V.nilp,V.nilp,V.nilp,(V.bool false),(V.bool false),(V.bool false),(V.bool false),(V.bool false),(V.bool false),(V.bool false),(V.bool false),(uc 0),(uc 0),(uc 0),(uc 0),(uc 0),(uc 0),(uc 0),(uc 0),(uc 0),(V.bool false),(uc 0),(uc 0),(uc 0),(uc 0),(uc 0),(uc 0),(uc 0),(uc 0),(uc 0),(uc 0),(uc 0),(uc 0),(uc 0),(uc 0),(uc 0),(uc 0),(uc 0),(uc 0),(uc 0),(uc 0),(V.bool false),(V.bool false),p,(uc 0),(uc 0),(uc 0),V.nils,(uc 0),V.nils,V.nils,p,V.nils,(V.bool false),p,(uc 0),(uc 0),(uc 0),V.nils,(uc 0),V.nils,V.nils,p,V.nils,(V.bool false),p,(uc 0),(uc 0),(uc 0),V.nils,(uc 0),V.nils,V.nils,p,V.nils,(V.bool false),p,(uc 0),(uc 0),(uc 0),V.nils,(uc 0),V.nils,V.nils,p,V.nils,(V.bool false),p,(uc 0),(uc 0),(uc 0),V.nils,(uc 0),V.nils,V.nils,p,V.nils,(V.bool false),p,(uc 0),(uc 0),(uc 0),V.nils,(uc 0),V.nils,V.nils,p,V.nils,(V.bool false),p,(uc 0),(uc 0),(uc 0),V.nils,(uc 0),V.nils,V.nils,p,V.nils,(V.bool false),p,(uc 0),(uc 0),(uc 0),V.nils,(uc 0),V.nils,V.nils,p,V.nils,(V.bool false),p,(uc 0),(uc 0),(uc 0),V.nils,(uc 0),V.nils,V.nils,p,V.nils,(V.bool false),p,(uc 0),(uc 0),(uc 0),V.nils,(uc 0),V.nils,V.nils,p,V.nils,(V.bool false),p,(uc 0),(uc 0),(uc 0),V.nils,(uc 0),V.nils,V.nils,p,V.nils,(V.bool false),p,(uc 0),(uc 0),(uc 0),V.nils,(uc 0),V.nils,V.nils,p,V.nils,(V.bool false),p,(uc 0),(uc 0),(uc 0),V.nils,(uc 0),V.nils,V.nils,p,V.nils,(V.bool false),p,(uc 0),(uc 0),(uc 0),V.nils,(uc 0),V.nils,V.nils,p,V.nils,(V.bool false),p,(uc 0),(uc 0),(uc 0),V.nils,(uc 0),V.nils,V.nils,p,V.nils,(V.bool false),p,(uc 0),(uc 0),(uc 0),V.nils,(uc 0),V.nils,V.nils,p,V.nils,(V.bool false),p,(uc 0),(uc 0),(uc 0),V.nils,(uc 0),V.nils,V.nils,p,V.nils,(V.bool false),p,(uc 0),(uc 0),(uc 0),V.nils,(uc 0),V.nils,V.nils,p,V.nils,(V.bool false),p,(uc 0),(uc 0),(uc 0),V.nils,(uc 0),V.nils,V.nils,p,V.nils,(V.bool false),p,(uc 0),(uc 0),(uc 0),V.nils,(uc 0),V.nils,V.nils,p,V.nils,(V.bool false),p,(uc 0),(uc 0),(uc 0),V.nils,(uc 0),V.nils,V.nils,p,V.nils,(V.bool false),p,(uc 0),(uc 0),(uc 0),V.nils,(uc 0),V.nils,V.nils,p,V.nils,(V.bool false),p,(uc 0),(uc 0),(uc 0),V.nils,(uc 0),V.nils,V.nils,p,V.nils,(V.bool false),p,(uc 0),(uc 0),(uc 0),V.nils,(uc 0),V.nils,V.nils,p,V.nils,V.nilp,V.nilp,V.nilp,V.nilp,V.nilp,V.nilp,V.nilp,V.nilp,V.nilp,V.nilp,V.nilp,V.nilp,V.nilp,V.nilp,V.nilp,V.nilp,V.nilp,V.nilp,V.nilp,V.nilp,V.nilp,V.nilp,V.nilp,V.nilp,V.nilp,V.nilp,V.nilp,V.nilp,V.nilp,V.nilp,V.nilp,V.nilp,V.nilp,V.nilp,V.nilp,V.nilp,V.nilp,V.nilp,V.nilp,V.nilp,V.nilp,V.nilp,V.nilp,V.nilp,V.nilp,V.nilp,V.nilp,V.nilp,V.nilp,V.nilp,V.nilp,V.nilp,V.nilp,V.nilp,V.nilp,V.nilp,V.nilp,V.nilp,V.nilp,V.nilp,V.nilp,V.nilp,V.nilp,V.nilp,(V.bool false),(V.bool false),(V.bool false),(V.bool false),(V.bool false),(V.bool false),(V.bool false),(V.bool false),(uc 0),(uc 0),(uc 0),(uc 0),(uc 0),(uc 0),(uc 0),(uc 0),(uc 0),(V.bool false),(uc 0),(uc 0),(uc 0),(uc 0),(uc 0),(uc 0),(uc 0),(uc 0),(uc 0),(uc 0),(uc 0),(uc 0),(uc 0),(uc 0),(uc 0),(uc 0),(uc 0),(uc 0),(uc 0),(uc 0),(V.bool false),(V.bool false),p,(uc 0),(uc 0),(uc 0),V.nils,(uc 0),V.nils,V.nils,p,V.nils,(V.bool false),p,(uc 0),(uc 0),(uc 0),V.nils,(uc 0),V.nils,V.nils,p,V.nils,(V.bool false),p,(uc 0),(uc 0),(uc 0),V.nils,(uc 0),V.nils,V.nils,p,V.nils,(V.bool false),p,(uc 0),(uc 0),(uc 0),V.nils,(uc 0),V.nils,V.nils,p,V.nils,(V.bool false),p,(uc 0),(uc 0),(uc 0),V.nils,(uc 0),V.nils,V.nils,p,V.nils,(V.bool false),p,(uc 0),(uc 0),(uc 0),V.nils,(uc 0),V.nils,V.nils,p,V.nils,(V.bool false),p,(uc 0),(uc 0),(uc 0),V.nils,(uc 0),V.nils,V.nils,p,V.nils,(V.bool false),p,(uc 0),(uc 0),(uc 0),V.nils,(uc 0),V.nils,V.nils,p,V.nils,(V.bool false),p,(uc 0),(uc 0),(uc 0),V.nils,(uc 0),V.nils,V.nils,p,V.nils,(V.bool false),p,(uc 0),(uc 0),(uc 0),V.nils,(uc 0),V.nils,V.nils,p,V.nils,(V.bool false),p,(uc 0),(uc 0),(uc 0),V.nils,(uc 0),V.nils,V.nils,p,V.nils,(V.bool false),p,(uc 0),(uc 0),(uc 0),V.nils,(uc 0),V.nils,V.nils,p,V.nils,(V.bool false),p,(uc 0),(uc 0),(uc 0),V.nils,(uc 0),V.nils,V.nils,p,V.nils,(V.bool false),p,(uc 0),(uc 0),(uc 0),V.nils,(uc 0),V.nils,V.nils,p,V.nils,(V.bool false),p,(uc 0),(uc 0),(uc 0),V.nils,(uc 0),V.nils,V.nils,p,V.nils,(V.bool false),p,(uc 0),(uc 0),(uc 0),V.nils,(uc 0),V.nils,V.nils,p,V.nils,(V.bool false),p,(uc 0),(uc 0),(uc 0),V.nils,(uc 0),V.nils,V.nils,p,V.nils,(V.bool false),p,(uc 0),(uc 0),(uc 0),V.nils,(uc 0),V.nils,V.nils,p,V.nils,(V.bool false),p,(uc 0),(uc 0),(uc 0),V.nils,(uc 0),V.nils,V.nils,p,V.nils,(V.bool false),p,(uc 0),(uc 0),(uc 0),V.nils,(uc 0),V.nils,V.nils,p,V.nils,(V.bool false),p,(uc 0),(uc 0),(uc 0),V.nils,(uc 0),V.nils,V.nils,p,V.nils,(V.bool false),p,(uc 0),(uc 0),(uc 0),V.nils,(uc 0),V.nils,V.nils,p,V.nils,(V.bool false),p,(uc 0),(uc 0),(uc 0),V.nils,(uc 0),V.nils,V.nils,p,V.nils,(V.bool false),p,(uc 0),(uc 0),(uc 0),V.nils,(uc 0),V.nils,V.nils,p,V.nils,V.nilp,V.nilp,V.nilp,V.nilp,V.nilp,V.nilp,V.nilp,V.nilp,V.nilp,V.nilp,V.nilp,V.nilp,V.nilp,V.nilp,V.nilp,V.nilp,V.nilp,V.nilp,V.nilp,V.nilp,V.nilp,V.nilp,V.nilp,V.nilp,V.nilp,V.nilp,V.nilp,V.nilp,V.nilp,V.nilp,V.nilp,V.nilp,V.nilp,V.nilp,V.nilp,V.nilp,V.nilp,V.nilp,V.nilp,V.nilp,V.nilp,V.nilp,V.nilp,V.nilp,V.nilp,V.nilp,V.nilp,V.nilp,V.nilp,V.nilp,V.nilp,V.nilp,V.nilp,V.nilp,V.nilp,V.nilp,V.nilp,V.nilp,V.nilp,V.nilp,V.nilp,V.nilp,V.nilp,V.nilp,(V.bool false),(V.bool false),(V.bool false),(V.bool false),(V.bool false),(V.bool false),(V.bool false),(V.bool false),(uc 0),(uc 0),(uc 0),(uc 0),(uc 0),(uc 0),(uc 0),(uc 0),(uc 0),(V.bool false),(uc 0),(uc 0),(uc 0),(uc 0),(uc 0),(uc 0),(uc 0),(uc 0),(uc 0),(uc 0),(uc 0),(uc 0),(uc 0),(uc 0),(uc 0),(uc 0),(uc 0),(uc 0),(uc 0),(uc 0),(V.bool false),(V.bool false),p,(uc 0),(uc 0),(uc 0),V.nils,(uc 0),V.nils,V.nils,p,V.nils,(V.bool false),p,(uc 0),(uc 0),(uc 0),V.nils,(uc 0),V.nils,V.nils,p,V.nils,(V.bool false),p,(uc 0),(uc 0),(uc 0),V.nils,(uc 0),V.nils,V.nils,p,V.nils,(V.bool false),p,(uc 0),(uc 0),(uc 0),V.nils,(uc 0),V.nils,V.nils,p,V.nils,(V.bool false),p,(uc 0),(uc 0),(uc 0),V.nils,(uc 0),V.nils,V.nils,p,V.nils,(V.bool false),p,(uc 0),(uc 0),(uc 0),V.nils,(uc 0),V.nils,V.nils,p,V.nils,(V.bool false),p,(uc 0),(uc 0),(uc 0),V.nils,(uc 0),V.nils,V.nils,p,V.nils,(V.bool false),p,(uc 0),(uc 0),(uc 0),V.nils,(uc 0),V.nils,V.nils,p,V.nils,(V.bool false),p,(uc 0),(uc 0),(uc 0),V.nils,(uc 0),V.nils,V.nils,p,V.nils,(V.bool false),p,(uc 0),(uc 0),(uc 0),V.nils,(uc 0),V.nils,V.nils,p,V.nils,(V.bool false),p,(uc 0),(uc 0),(uc 0),V.nils,(uc 0),V.nils,V.nils,p,V.nils,(V.bool false),p,(uc 0),(uc 0),(uc 0),V.nils,(uc 0),V.nils,V.nils,p,V.nils,(V.bool false),p,(uc 0),(uc 0),(uc 0),V.nils,(uc 0),V.nils,V.nils,p,V.nils,(V.bool false),p,(uc 0),(uc 0),(uc 0),V.nils,(uc 0),V.nils,V.nils,p,V.nils,(V.bool false),p,(uc 0),(uc 0),(uc 0),V.nils,(uc 0),V.nils,V.nils,p,V.nils,(V.bool false),p,(uc 0),(uc 0),(uc 0),V.nils,(uc 0),V.nils,V.nils,p,V.nils,(V.bool false),p,(uc 0),(uc 0),(uc 0),V.nils,(uc 0),V.nils,V.nils,p,V.nils,(V.bool false),p,(uc 0),(uc 0),(uc 0),V.nils,(uc 0),V.nils,V.nils,p,V.nils,(V.bool false),p,(uc 0),(uc 0),(uc 0),V.nils,(uc 0),V.nils,V.nils,p,V.nils,(V.bool false),p,(uc 0),(uc 0),(uc 0),V.nils,(uc 0),V.nils,V.nils,p,V.nils,(V.bool false),p,(uc 0),(uc 0),(uc 0),V.nils,(uc 0),V.nils,V.nils,p,V.nils,(V.bool false),p,(uc 0),(uc 0),(uc 0),V.nils,(uc 0),V.nils,V.nils,p,V.nils,(V.bool false),p,(uc 0),(uc 0),(uc 0),V.nils,(uc 0),V.nils,V.nils,p,V.nils,(V.bool false),p,(uc 0),(uc 0),(uc 0),V.nils,(uc 0),V.nils,V.nils,p,V.nils,V.nilp,V.nilp,V.nilp,V.nilp,V.nilp,V.nilp,V.nilp,V.nilp,V.nilp,V.nilp,V.nilp,V.nilp,V.nilp,V.nilp,V.nilp,V.nilp,V.nilp,V.nilp,V.nilp,V.nilp,V.nilp,V.nilp,V.nilp,V.nilp,V.nilp,V.nilp,V.nilp,V.nilp,V.nilp,V.nilp,V.nilp,V.nilp,V.nilp,V.nilp,V.nilp,V.nilp,V.nilp,V.nilp,V.nilp,V.nilp,V.nilp,V.nilp,V.nilp,V.nilp,V.nilp,V.nilp,V.nilp,V.nilp,V.nilp,V.nilp,V.nilp,V.nilp,V.nilp,V.nilp,V.nilp,V.nilp,V.nilp,V.nilp,V.nilp,V.nilp,V.nilp,V.nilp,V.nilp,V.nilp,(uc 0),V.nils,V.nilp,V.nilp,V.nilp,V.nilp,V.nilp,V.nilp,V.nilp,V.nilp,V.nilp,V.nilp,V.nilp,V.nilp,V.nilp,V.nilp,V.nilp,V.nilp,V.nilp,V.nilp,V.nilp,V.nilp,V.nilp,V.nilp,V.nilp,V.nilp,V.nilp,V.nilp,V.nilp,V.nilp,V.nilp,V.nilp,V.nilp,V.nilp,V.nilp,V.nilp,V.nilp,V.nilp,V.nilp,V.nilp,V.nilp,V.nilp,V.nilp,V.nilp,V.nilp,V.nilp,V.nilp,V.nilp,V.nilp,V.nilp,V.nilp,V.nilp,V.nilp,V.nilp,V.nilp,V.nilp,V.nilp,V.nilp,V.nilp,V.nilp,V.nilp,V.nilp,V.nilp,V.nilp,V.nilp,V.nilp,V.nilp] [(1534,1,t3)]) fun t4 =>
 uO zhm t4 fun t5 =>
 M.blk 0 (
 M.iter (zfn G t5 V.nilp) [(uc 0)]) fun _ =>
 M.pure (.ret [t5])
theorem zme:OkT zdF [] (zjQ (sem T)):=okT (by kernel_rfl) (by kernel_rfl) (by kernel_rfl)
def zeS (G:Sem') (t0:V):M Res :=
 uL (Ax.minmax true t0 [(uc 0)]) fun t4 =>
 uL (Ax.minmax false t4 [(uc 100)]) fun t5 =>
 (zbZ zbT 8 [(uc 0)] t5 t5).bind fun t6 =>
 uL (Ax.build [V.nils] [(0,1,t6)]) fun t7 =>
 uO zdV t7 fun t8 =>
 M.pure (.ret [t8])
theorem zgU {t0:V}:OkT zb3 [t0] (zeS (sem T) t0):=okT (by kernel_rfl) (by kernel_rfl) (by kernel_rfl)
def zdG (G:Sem') (t0:V):M Res :=
 uL (Ax.minmax true t0 [(uc 1)]) fun t4 =>
 uL (Ax.minmax false t4 [(uc 1000)]) fun t5 =>
 uL (Ax.build [(uc 0),V.nils] [(0,1,t5)]) fun t6 =>
 uO zcX t6 fun t7 =>
 M.pure (.ret [t7])
theorem zfz {t0:V}:OkT zbC [t0] (zdG (sem T) t0):=okT (by kernel_rfl) (by kernel_rfl) (by kernel_rfl)
def zcK (G:Sem'):M Res :=
 (G zdF []).bind fun t9 =>
 uL (eqr .ptr false t9 V.nilp) fun t11 =>
 M.ite t11
 (M.pure (.ret [(V.bool false)]))
 ((zcM zaw 1 [(ub 0)] [(0,1,(ub 120))]).bind fun t14 =>
 (zfc zaw t14).bind fun t15 =>
 uL (Ax.build [(uc 0),(uc 0),(uc 0),V.nils] [(0,1,(uc 1)),(1,1,(uc 5)),(3,1,t15)]) fun t16 =>
 (G zaF [t9,t16]).bind fun t17 =>
 uE 0 t17 fun t18 =>
 uE 1 t17 fun t19 =>
 (G zbt [t9,(uc 2)]).bind fun t21 =>
 uL (Ax.build [(uc 0),(uc 0),(uc 0),(uc 0),(uc 0),(uc 0),V.nils] [(0,1,(uc 1))]) fun t24 =>
 (G zaJ [t24]).bind fun t25 =>
 uL (Ax.build [(uc 0),(uc 0),(uc 0),V.nils] [(0,1,(uc 2)),(1,1,(uc 5)),(3,1,t25)]) fun t26 =>
 (G zaF [t9,t26]).bind fun t27 =>
 uE 0 t27 fun t28 =>
 uE 1 t27 fun t29 =>
 (G zbj [t9,(uc 0)]).bind fun t32 =>
 uE 0 t32 fun t33 =>
 uE 1 t32 fun t34 =>
 uO zao (V.agg [(V.bool false),(V.bool false),(V.bool false),(V.bool false),(V.bool false),(V.bool false),(V.bool false),(V.bool false),(uc 0),(uc 0),(uc 0),(uc 0),(uc 0),(uc 0),(uc 0),(uc 0),(uc 0),(V.bool false),(uc 0),(uc 0),(uc 0),(uc 0),(uc 0),(uc 0),(uc 0),(uc 0),(uc 0),(uc 0),(uc 0),(uc 0),(uc 0),(uc 0),(uc 0),(uc 0),(uc 0),(uc 0),(uc 0),(uc 0),(V.bool false)]) fun t7 =>
 uT 39 t7 t33 fun _ =>
 uB .eql t19 (uc 0) fun t36 =>
 uG t36 true (M.pure t21) fun t38 =>
 uH t36 true (Ax.bin .eql t38 (uc 1)) fun t39 =>
 uL (Ax.pick t36 t39 (V.bool false)) fun t40 =>
 uG t40 true (M.pure t29) fun t42 =>
 uH t40 true (Ax.bin .eql t42 (uc 0)) fun t43 =>
 uL (Ax.pick t40 t43 (V.bool false)) fun t44 =>
 uG t44 true (M.pure t9) fun t46 =>
 uG t44 true (G zbs [t46,(uc 5)]) fun t47 =>
 uH t44 true (Ax.bin .eql t47 (uc 1)) fun t48 =>
 uL (Ax.pick t44 t48 (V.bool false)) fun t49 =>
 uG t49 true (M.pure t34) fun t51 =>
 uL (Ax.pick t49 t51 (V.bool false)) fun t52 =>
 uH t52 true (Ax.faddr 0 t7) fun t54 =>
 uH t52 true (Ax.faddr 0 t54) fun t55 =>
 uH t52 true (Ax.iaddr (some 8) 1 t55 (uc 0)) fun t56 =>
 uG t52 true (zam none t56) fun t57 =>
 uL (Ax.pick t52 t57 (V.bool false)) fun t58 =>
 uH t58 true (Ax.faddr 0 t7) fun t60 =>
 uH t58 true (Ax.faddr 8 t60) fun t61 =>
 uH t58 true (Ax.iaddr (some 8) 1 t61 (uc 0)) fun t62 =>
 uG t58 true (zam none t62) fun t63 =>
 uH t58 true (Ax.bin .eql t63 (uc 5)) fun t64 =>
 uL (Ax.pick t58 t64 (V.bool false)) fun t65 =>
 M.pure (.ret [t65]))
theorem zeB:OkT zaU [] (zcK (sem T)):=okT (by kernel_rfl) (by kernel_rfl) (by kernel_rfl)
def zcW (G:Sem') (t0 t1:V):M Res :=
 uO za2 t1 fun t3 =>
 uFM 0 t3 fun t7 =>
 uB .lss t7 (uc 1) fun t8 =>
 uH t8 false (Ax.faddr 0 t3) fun t10 =>
 uG t8 false (zam none t10) fun t11 =>
 uH t8 false (Ax.bin .gtr t11 (uc 5)) fun t12 =>
 uL (Ax.pick t8 (V.bool true) t12) fun t13 =>
 uH t13 false (Ax.faddr 0 t3) fun t15 =>
 uG t13 false (zam none t15) fun t16 =>
 uH t13 false (Ax.bin .neq t16 (uc 3)) fun t17 =>
 uG t13 false (M.pure t17) fun t18 =>
 uH t18 true (Ax.faddr 0 t3) fun t19 =>
 uG t18 true (zam none t19) fun t20 =>
 uH t18 true (Ax.bin .neq t20 (uc 4)) fun t21 =>
 uH t13 false (Ax.pick t18 t21 (V.bool false)) fun t22 =>
 uG t13 false (M.pure t22) fun t23 =>
 uH t23 true (Ax.faddr 1 t3) fun t24 =>
 uG t23 true (zam none t24) fun t25 =>
 uG t23 true (G zc4 [t25]) fun t26 =>
 uH t23 true (Ax.un .not t26) fun t27 =>
 uH t13 false (Ax.pick t23 t27 (V.bool false)) fun t28 =>
 uL (Ax.pick t13 (V.bool true) t28) fun t29 =>
 M.ite t29
 (M.pure (.ret [V.nils,(uc 1)]))
 (uFM 0 t3 fun t31 =>
 M.blk 0 (
 uB .eql t31 (uc 1) fun t47 =>
 M.join (M.ite t47
 (uFM 1 t3 fun t50 =>
 uFM 3 t3 fun t52 =>
 (G zba [t0,t50,t52]).bind fun t53 =>
 M.pure (.nrm []))
 (uB .eql t31 (uc 2) fun t55 =>
 M.join (M.ite t55
 (uFM 1 t3 fun t58 =>
 uFM 3 t3 fun t60 =>
 (G za1 [t0,t58,t60]).bind fun t61 =>
 M.pure (.nrm []))
 (uB .eql t31 (uc 3) fun t63 =>
 M.join (M.ite t63
 (uFM 2 t3 fun t65 =>
 uB .lss t65 (uc 0) fun t66 =>
 uH t66 false (Ax.faddr 2 t3) fun t68 =>
 uG t66 false (zam none t68) fun t69 =>
 uH t66 false (Ax.bin .gtr t69 (uc 100000)) fun t70 =>
 uL (Ax.pick t66 (V.bool true) t70) fun t71 =>
 M.ite t71
 (M.pure (.ret [V.nils,(uc 1)]))
 (uFM 2 t3 fun t74 =>
 (G zej [t0,t74]).bind fun t75 =>
 M.pure (.nrm [])))
 (uB .eql t31 (uc 4) fun t77 =>
 M.ite t77
 (uFM 2 t3 fun t79 =>
 uB .lss t79 (uc 0) fun t80 =>
 uH t80 false (Ax.faddr 2 t3) fun t82 =>
 uG t80 false (zam none t82) fun t83 =>
 uH t80 false (Ax.bin .gtr t83 (uc 4294967295)) fun t84 =>
 uL (Ax.pick t80 (V.bool true) t84) fun t85 =>
 M.ite t85
 (M.pure (.ret [V.nils,(uc 1)]))
 (uNFM 1469 t0 fun t89 =>
 uL (vlen t89) fun t90 =>
 uB .geq t90 (uc 16) fun t91 =>
 M.ite t91
 (M.pure (.ret [V.nils,(uc 5)]))
 (uNFM 1469 t0 fun t96 =>
 uFM 2 t3 fun t98 =>
 uL (Ax.cint .u32 t98) fun t99 =>
 (zcM zkV 1 [(V.int .u32 0)] [(0,1,t99)]).bind fun t100 =>
 (zaC zkV 1 4 t96 t100).bind fun t101 =>
 uNF 1469 t0 fun t103 =>
 uT 1 t103 t101 fun _ =>
 M.pure (.nrm []))))
 (uFM 2 t3 fun t33 =>
 uB .lss t33 (uc 0) fun t34 =>
 uH t34 false (Ax.faddr 2 t3) fun t36 =>
 uG t34 false (zam none t36) fun t37 =>
 uH t34 false (Ax.bin .gtr t37 (uc 32)) fun t38 =>
 uL (Ax.pick t34 (V.bool true) t38) fun t39 =>
 M.ite t39
 (M.pure (.ret [V.nils,(uc 1)]))
 (uFM 1 t3 fun t42 =>
 uFM 2 t3 fun t44 =>
 (G zbq [t0,t42,t44]).bind fun t45 =>
 M.pure (.ret [t45,(uc 0)]))))) fun _ =>
 M.pure (.nrm []))) fun _ =>
 M.pure (.nrm []))) fun _ =>
 M.pure (.nrm [])) fun _ =>
 M.pure (.ret [V.nils,(uc 0)]))
theorem zdx {t0 t1:V}:OkT zaF [t0,t1] (zcW (sem T) t0 t1):=okT (by kernel_rfl) (by kernel_rfl) (by kernel_rfl)
def ziQ (G:Sem') (t0:V):M Res :=
 uB .geq t0 (uc 0) fun t4 =>
 uG t4 true (M.pure t0) fun t6 =>
 uH t4 true (Ax.bin .leq t6 (uc 63)) fun t7 =>
 uL (Ax.pick t4 t7 (V.bool false)) fun t8 =>
 M.pure (.ret [t8])
theorem zlg {t0:V}:OkT zc4 [t0] (ziQ (sem T) t0):=okT (by kernel_rfl) (by kernel_rfl) (by kernel_rfl)
def zdj (G:Sem') (t0 t1 t2:V):M Res :=
 uL (vlen t2) fun t12 =>
 uB .gtr t12 (uc 1200) fun t13 =>
 M.ite t13
 (uNFM 1534 t0 fun t17 =>
 (G zaR [t17,(uc 1)]).bind fun t18 =>
 M.pure (.ret []))
 ((G zbp [t0,t1]).bind fun t22 =>
 uE 0 t22 fun t23 =>
 uE 1 t22 fun t24 =>
 uE 2 t22 fun t25 =>
 uL (Ax.un .not t25) fun t27 =>
 M.ite t27
 (uNFM 1534 t0 fun t31 =>
 (G zaR [t31,(uc 2)]).bind fun t32 =>
 M.pure (.ret []))
 ((G zbr [t0,t23,t1]).bind fun t36 =>
 (G zjM [t2]).bind fun t38 =>
 M.ite t38
 ((G zdg [t0,t23,t24,t2]).bind fun t43 =>
 M.pure (.ret []))
 ((G zdE [t23,t24,t2]).bind fun t48 =>
 uE 0 t48 fun t49 =>
 uE 1 t48 fun t50 =>
 uO zi5 (V.agg [(V.bool false),(uc 0),(V.int .u16 0),(V.int .u32 0),(V.int .u32 0),V.nils,(uc 0),V.nils,(uc 0),V.nils,(uc 0),(uc 0),(V.bool false),(V.bool false),(uc 0),(V.int .u16 0),(V.bool false),(uc 0),(uc 0),V.nils,(uc 0),V.nils,V.nils,(V.bool false),(V.int .u32 0),(V.bool false),(V.bool false),(V.bool false),V.nils,V.nils,V.nils]) fun t9 =>
 uT 31 t9 t49 fun _ =>
 uB .neq t50 (uc 0) fun t52 =>
 M.ite t52
 (uNFM 1534 t0 fun t56 =>
 (G zaR [t56,t50]).bind fun t58 =>
 M.pure (.ret []))
 (uS 31 t9 fun t62 =>
 (G zdT [t0,t23,t24,t62]).bind fun t63 =>
 M.pure (.ret [])))))
theorem zfb {t0 t1 t2:V}:OkT zba [t0,t1,t2] (zdj (sem T) t0 t1 t2):=okT (by kernel_rfl) (by kernel_rfl) (by kernel_rfl)
def zem (G:Sem') (t0 t1:V):M Res :=
 uB .geq t1 (uc 0) fun t5 =>
 uG t5 true (M.pure t1) fun t7 =>
 uG t5 true (M.pure t0) fun t8 =>
 uH t5 true (Ax.nilck t8) fun t9 =>
 uH t5 true (Ax.faddr 0 t9) fun t10 =>
 uG t5 true (zam none t10) fun t11 =>
 uH t5 true (vlen t11) fun t12 =>
 uH t5 true (Ax.bin .lss t7 t12) fun t13 =>
 uL (Ax.pick t5 t13 (V.bool false)) fun t14 =>
 M.join (M.ite t14
 (uNFM 0 t0 fun t18 =>
 uI none 1 t18 t1 fun t20 =>
 (G zbG [t20,(uc 1)]).bind fun t21 =>
 M.pure (.nrm []))
 (M.pure (.nrm []))) fun _ =>
 M.pure (.ret [])
theorem zf9 {t0 t1:V}:OkT zaR [t0,t1] (zem (sem T) t0 t1):=okT (by kernel_rfl) (by kernel_rfl) (by kernel_rfl)
def zcC (G:Sem') (t0 t1:V):M Res :=
 uNF 0 t0 fun t7 =>
 (zeC .i64 t7 t1).bind fun t9 =>
 M.pure (.ret [t9])
theorem zef {t0 t1:V}:OkT zbG [t0,t1] (zcC (sem T) t0 t1):=okT (by kernel_rfl) (by kernel_rfl) (by kernel_rfl)
def zci (G:Sem') (t1 t0:V) (L:List V):M Res :=
 uB .lss (ug L 0) (uc 4) fun t11 =>
 M.ite t11
 (M.blk 1 (
 uNF 0 t0 fun t17 =>
 uI (some 4) 367 t17 (ug L 0) fun t18 =>
 uF 0 t18 fun t19 =>
 uF 0 t19 fun t20 =>
 uS 16 t20 fun t21 =>
 (G zcx [t21,t1]).bind fun t23 =>
 uE 0 t23 fun t24 =>
 uE 1 t23 fun t25 =>
 M.ite t25
 (uNF 0 t0 fun t30 =>
 uI (some 4) 367 t30 (ug L 0) fun t31 =>
 M.pure (.ret [t31,t24,(V.bool true)]))
 (M.pure (.nrm []))) fun _ =>
 uB .add (ug L 0) (uc 1) fun t33 =>
 M.pure (.nrm [t33]))
 (M.pure (.ex 0 []))
def zeo (G:Sem') (t0 t1:V):M Res :=
 M.blk 0 (
 M.iter (zci G t1 t0) [(uc 0)]) fun _ =>
 M.pure (.ret [V.nilp,(uc 0),(V.bool false)])
theorem zgb {t0 t1:V}:OkT zbp [t0,t1] (zeo (sem T) t0 t1):=okT (by kernel_rfl) (by kernel_rfl) (by kernel_rfl)
def zhA (G:Sem') (t0 t1:V):M Res :=
 uO zaf t0 fun t2 =>
 uS 16 t2 fun t6 =>
 (G zbJ [t6]).bind fun t7 =>
 uL (Ax.un .not t7) fun t8 =>
 M.ite t8
 (M.pure (.ret [(uc 0),(V.bool false)]))
 (uS 16 t2 fun t9 =>
 (G zb0 [t9,t1]).bind fun t11 =>
 uE 0 t11 fun t12 =>
 uE 1 t11 fun t13 =>
 M.pure (.ret [t12,t13]))
theorem zkg {t0 t1:V}:OkT zcx [t0,t1] (zhA (sem T) t0 t1):=okT (by kernel_rfl) (by kernel_rfl) (by kernel_rfl)
def zd7 (G:Sem') (t8 t1:V) (L:List V):M Res :=
 uB .lss (ug L 0) (uc 8) fun t10 =>
 M.ite t10
 (M.blk 1 (
 uL (Ax.index 8 1 none t8 (ug L 0)) fun t12 =>
 uF 0 t1 fun t14 =>
 uIM (some 8) 1 t14 (ug L 0) fun t16 =>
 uL (Ax.un .not t16) fun t17 =>
 M.ite t17
 (uB .neq t12 (uc 0) fun t19 =>
 M.ite t19
 (M.pure (.ret [(V.bool false)]))
 (M.pure (.ex 1 [])))
 (uS 16 t1 fun t21 =>
 (G zb0 [t21,t12]).bind fun t23 =>
 uE 0 t23 fun t24 =>
 uE 1 t23 fun t25 =>
 uB .neq t24 (ug L 0) fun t28 =>
 uG t28 false (M.pure t12) fun t30 =>
 uG t28 false (G zcv [t30]) fun t31 =>
 uH t28 false (Ax.un .not t31) fun t32 =>
 uL (Ax.pick t28 (V.bool true) t32) fun t33 =>
 M.ite t33
 (M.pure (.ret [(V.bool false)]))
 (M.pure (.nrm [])))) fun _ =>
 uB .add (ug L 0) (uc 1) fun t34 =>
 M.pure (.nrm [t34]))
 (M.pure (.ex 0 []))
def zhz (G:Sem') (t0:V):M Res :=
 uO zaf t0 fun t1 =>
 uF 8 t1 fun t7 =>
 uS 8 t7 fun t8 =>
 M.blk 0 (
 M.iter (zd7 G t8 t1) [(uc 0)]) fun _ =>
 M.pure (.ret [(V.bool true)])
theorem zkf {t0:V}:OkT zbJ [t0] (zhz (sem T) t0):=okT (by kernel_rfl) (by kernel_rfl) (by kernel_rfl)
def zd5 (G:Sem') (t9 t2 t1:V) (L:List V):M Res :=
 uB .lss (ug L 0) (uc 8) fun t11 =>
 M.ite t11
 (M.blk 1 (
 uL (Ax.index 8 1 none t9 (ug L 0)) fun t13 =>
 uF 0 t2 fun t15 =>
 uIM (some 8) 1 t15 (ug L 0) fun t17 =>
 uG t17 true (M.pure t1) fun t19 =>
 uG t17 true (M.pure t13) fun t20 =>
 uH t17 true (Ax.bin .eql t19 t20) fun t21 =>
 uL (Ax.pick t17 t21 (V.bool false)) fun t22 =>
 M.ite t22
 (M.pure (.ret [(ug L 0),(V.bool true)]))
 (M.pure (.nrm []))) fun _ =>
 uB .add (ug L 0) (uc 1) fun t24 =>
 M.pure (.nrm [t24]))
 (M.pure (.ex 0 []))
def zhv (G:Sem') (t0 t1:V):M Res :=
 uO zaf t0 fun t2 =>
 uF 8 t2 fun t8 =>
 uS 8 t8 fun t9 =>
 M.blk 0 (
 M.iter (zd5 G t9 t2 t1) [(uc 0)]) fun _ =>
 M.pure (.ret [(uc 0),(V.bool false)])
theorem zkb {t0 t1:V}:OkT zb0 [t0,t1] (zhv (sem T) t0 t1):=okT (by kernel_rfl) (by kernel_rfl) (by kernel_rfl)
def zhw (G:Sem') (t0:V):M Res :=
 uB .geq t0 (uc 0) fun t4 =>
 uG t4 true (M.pure t0) fun t6 =>
 uH t4 true (Ax.bin .leq t6 (uc 63)) fun t7 =>
 uL (Ax.pick t4 t7 (V.bool false)) fun t8 =>
 M.pure (.ret [t8])
theorem zkc {t0:V}:OkT zcv [t0] (zhw (sem T) t0):=okT (by kernel_rfl) (by kernel_rfl) (by kernel_rfl)
def zeq (G:Sem') (t0 t1 t2:V):M Res :=
 uNF 0 t1 fun t10 =>
 uS 39 t10 fun t11 =>
 uNFM 1468 t0 fun t16 =>
 (G zdo [t11,t2,t16]).bind fun t17 =>
 uE 0 t17 fun t18 =>
 uNF 0 t1 fun t21 =>
 uT 39 t21 t18 fun _ =>
 uE 1 t17 fun t19 =>
 M.pure (.ret [])
theorem zgd {t0 t1 t2:V}:OkT zbr [t0,t1,t2] (zeq (sem T) t0 t1 t2):=okT (by kernel_rfl) (by kernel_rfl) (by kernel_rfl)
def zhB (G:Sem') (t0 t1 t2:V):M Res :=
 uO zao t0 fun t3 =>
 uO zao (V.agg [(V.bool false),(V.bool false),(V.bool false),(V.bool false),(V.bool false),(V.bool false),(V.bool false),(V.bool false),(uc 0),(uc 0),(uc 0),(uc 0),(uc 0),(uc 0),(uc 0),(uc 0),(uc 0),(V.bool false),(uc 0),(uc 0),(uc 0),(uc 0),(uc 0),(uc 0),(uc 0),(uc 0),(uc 0),(uc 0),(uc 0),(uc 0),(uc 0),(uc 0),(uc 0),(uc 0),(uc 0),(uc 0),(uc 0),(uc 0),(V.bool false)]) fun t6 =>
 uS 39 t3 fun t11 =>
 (G zdR [t11,t1]).bind fun t13 =>
 uE 0 t13 fun t14 =>
 uE 1 t13 fun t15 =>
 uB .neq t15 (uc 0) fun t17 =>
 M.ite t17
 (uS 39 t3 fun t18 =>
 uT 39 t6 t18 fun _ =>
 uS 39 t6 fun r0 =>
 M.pure (.ret [r0,t15]))
 (uF 22 t3 fun t22 =>
 uI (some 8) 1 t22 t14 fun t23 =>
 uT 1 t23 t2 fun _ =>
 uS 39 t3 fun t24 =>
 uT 39 t6 t24 fun _ =>
 uS 39 t6 fun r0 =>
 M.pure (.ret [r0,(uc 0)]))
theorem zkh {t0 t1 t2:V}:OkT zdo [t0,t1,t2] (zhB (sem T) t0 t1 t2):=okT (by kernel_rfl) (by kernel_rfl) (by kernel_rfl)
def ziN (G:Sem') (t0 t1:V):M Res :=
 uO zao t0 fun t2 =>
 uS 39 t2 fun t8 =>
 (G zc3 [t8]).bind fun t9 =>
 uL (Ax.un .not t9) fun t10 =>
 M.ite t10
 (M.pure (.ret [(uc 0),(uc 1)]))
 (uF 0 t2 fun t12 =>
 uS 16 t12 fun t13 =>
 (G zcx [t13,t1]).bind fun t15 =>
 uE 0 t15 fun t16 =>
 uE 1 t15 fun t17 =>
 uL (Ax.un .not t17) fun t19 =>
 M.ite t19
 (M.pure (.ret [(uc 0),(uc 6)]))
 (M.pure (.ret [t16,(uc 0)])))
theorem zld {t0 t1:V}:OkT zdR [t0,t1] (ziN (sem T) t0 t1):=okT (by kernel_rfl) (by kernel_rfl) (by kernel_rfl)
def zeL (G:Sem') (t18 t1:V) (L:List V):M Res :=
 uB .lss (ug L 0) (uc 8) fun t20 =>
 M.ite t20
 (M.blk 1 (
 uL (Ax.index 8 1 none t18 (ug L 0)) fun t22 =>
 uL (Ax.un .not t22) fun t24 =>
 uG t24 true (M.pure (ug L 0)) fun t26 =>
 uH t24 true (Ax.faddr 22 t1) fun t27 =>
 uH t24 true (Ax.iaddr (some 8) 1 t27 t26) fun t28 =>
 uG t24 true (zam none t28) fun t29 =>
 uH t24 true (Ax.bin .neq t29 (uc 0)) fun t30 =>
 uG t24 true (M.pure t30) fun t31 =>
 uG t31 false (M.pure (ug L 0)) fun t32 =>
 uH t31 false (Ax.faddr 30 t1) fun t33 =>
 uH t31 false (Ax.iaddr (some 8) 1 t33 t32) fun t34 =>
 uG t31 false (zam none t34) fun t35 =>
 uH t31 false (Ax.bin .neq t35 (uc 0)) fun t36 =>
 uH t24 true (Ax.pick t31 (V.bool true) t36) fun t37 =>
 uL (Ax.pick t24 t37 (V.bool false)) fun t38 =>
 uG t38 false (M.pure (ug L 0)) fun t40 =>
 uH t38 false (Ax.faddr 30 t1) fun t41 =>
 uH t38 false (Ax.iaddr (some 8) 1 t41 t40) fun t42 =>
 uG t38 false (zam none t42) fun t43 =>
 uH t38 false (Ax.bin .lss t43 (uc 0)) fun t44 =>
 uL (Ax.pick t38 (V.bool true) t44) fun t45 =>
 uG t45 false (M.pure (ug L 0)) fun t47 =>
 uH t45 false (Ax.faddr 30 t1) fun t48 =>
 uH t45 false (Ax.iaddr (some 8) 1 t48 t47) fun t49 =>
 uG t45 false (zam none t49) fun t50 =>
 uH t45 false (Ax.faddr 16 t1) fun t51 =>
 uH t45 false (Ax.faddr 0 t51) fun t52 =>
 uG t45 false (zam none t52) fun t53 =>
 uH t45 false (Ax.bin .gtr t50 t53) fun t54 =>
 uL (Ax.pick t45 (V.bool true) t54) fun t55 =>
 M.ite t55
 (M.pure (.ret [(V.bool false)]))
 (M.pure (.nrm []))) fun _ =>
 uB .add (ug L 0) (uc 1) fun t56 =>
 M.pure (.nrm [t56]))
 (M.pure (.ex 0 []))
def ziP (G:Sem') (t0:V):M Res :=
 uO zao t0 fun t1 =>
 uF 0 t1 fun t6 =>
 uS 16 t6 fun t7 =>
 (G zbJ [t7]).bind fun t8 =>
 uL (Ax.un .not t8) fun t9 =>
 uH t9 false (Ax.faddr 16 t1) fun t11 =>
 uG t9 false (zam (some 6) t11) fun t12 =>
 uG t9 false (G zcz [t12]) fun t13 =>
 uH t9 false (Ax.un .not t13) fun t14 =>
 uL (Ax.pick t9 (V.bool true) t14) fun t15 =>
 M.ite t15
 (M.pure (.ret [(V.bool false)]))
 (uF 0 t1 fun t16 =>
 uF 0 t16 fun t17 =>
 uS 8 t17 fun t18 =>
 M.blk 0 (
 M.iter (zeL G t18 t1) [(uc 0)]) fun _ =>
 uF 0 t1 fun t57 =>
 uS 16 t57 fun t58 =>
 (G zcw [t58]).bind fun t59 =>
 uF 16 t1 fun t60 =>
 uFM 1 t60 fun t62 =>
 uL (Ax.un .not t62) fun t63 =>
 uH t63 false (Ax.faddr 16 t1) fun t65 =>
 uH t63 false (Ax.faddr 3 t65) fun t66 =>
 uG t63 false (zam none t66) fun t67 =>
 uG t63 false (M.pure t59) fun t68 =>
 uH t63 false (Ax.bin .andNot t67 t68) fun t69 =>
 uH t63 false (Ax.bin .eql t69 (uc 0)) fun t70 =>
 uL (Ax.pick t63 (V.bool true) t70) fun t71 =>
 uH t71 true (Ax.faddr 38 t1) fun t73 =>
 uG t71 true (zam none t73) fun t74 =>
 uH t71 true (Ax.un .not t74) fun t75 =>
 uG t71 true (M.pure t75) fun t76 =>
 uG t76 false (M.pure t59) fun t77 =>
 uH t76 false (Ax.bin .eql t77 (uc 0)) fun t78 =>
 uH t71 true (Ax.pick t76 (V.bool true) t78) fun t79 =>
 uL (Ax.pick t71 t79 (V.bool false)) fun t80 =>
 M.pure (.ret [t80]))
theorem zlf {t0:V}:OkT zc3 [t0] (ziP (sem T) t0):=okT (by kernel_rfl) (by kernel_rfl) (by kernel_rfl)
def zhE (G:Sem') (t0:V):M Res :=
 uO zar t0 fun t1 =>
 uFM 0 t1 fun t4 =>
 uB .lss t4 (uc 0) fun t5 =>
 uH t5 false (Ax.faddr 0 t1) fun t7 =>
 uG t5 false (zam none t7) fun t8 =>
 uH t5 false (Ax.bin .gtr t8 (uc 65535)) fun t9 =>
 uL (Ax.pick t5 (V.bool true) t9) fun t10 =>
 M.ite t10
 (M.pure (.ret [(V.bool false)]))
 (uFM 1 t1 fun t12 =>
 uL (Ax.un .not t12) fun t13 =>
 M.ite t13
 (uS 6 t1 fun t14 =>
 uFM 0 t1 fun t16 =>
 uL (Ax.build [(uc 0),(V.bool false),(uc 0),(uc 0),(uc 0),(uc 0)] [(0,1,t16)]) fun t17 =>
 uL (eqr (.st [.int,.bool,.int,.int,.int,.int]) false t14 t17) fun t18 =>
 M.pure (.ret [t18]))
 (uFM 2 t1 fun t20 =>
 uFM 0 t1 fun t22 =>
 uB .gtr t20 t22 fun t23 =>
 uH t23 true (Ax.faddr 2 t1) fun t25 =>
 uG t23 true (zam none t25) fun t26 =>
 uH t23 true (Ax.bin .leq t26 (uc 65535)) fun t27 =>
 uL (Ax.pick t23 t27 (V.bool false)) fun t28 =>
 uH t28 true (Ax.faddr 3 t1) fun t30 =>
 uG t28 true (zam none t30) fun t31 =>
 uH t28 true (Ax.bin .geq t31 (uc 1)) fun t32 =>
 uL (Ax.pick t28 t32 (V.bool false)) fun t33 =>
 uH t33 true (Ax.faddr 3 t1) fun t35 =>
 uG t33 true (zam none t35) fun t36 =>
 uH t33 true (Ax.bin .leq t36 (uc 255)) fun t37 =>
 uL (Ax.pick t33 t37 (V.bool false)) fun t38 =>
 uH t38 true (Ax.faddr 4 t1) fun t40 =>
 uG t38 true (zam none t40) fun t41 =>
 uH t38 true (Ax.faddr 3 t1) fun t42 =>
 uG t38 true (zam none t42) fun t43 =>
 uH t38 true (Ax.bin .andNot t41 t43) fun t44 =>
 uH t38 true (Ax.bin .eql t44 (uc 0)) fun t45 =>
 uL (Ax.pick t38 t45 (V.bool false)) fun t46 =>
 uH t46 true (Ax.faddr 4 t1) fun t48 =>
 uG t46 true (zam none t48) fun t49 =>
 uH t46 true (Ax.faddr 3 t1) fun t50 =>
 uG t46 true (zam none t50) fun t51 =>
 uH t46 true (Ax.bin .neq t49 t51) fun t52 =>
 uL (Ax.pick t46 t52 (V.bool false)) fun t53 =>
 M.pure (.ret [t53])))
theorem zkk {t0:V}:OkT zcz [t0] (zhE (sem T) t0):=okT (by kernel_rfl) (by kernel_rfl) (by kernel_rfl)
end Go.Ax
/- FnS2 -/
namespace Go.Ax
open Go.Proofs
def zd6 (G:Sem') (t10 t2:V) (L:List V):M Res :=
 uB .lss (ug L 1) (uc 8) fun t12 =>
 M.ite t12
 (M.blk 1 (
 uL (Ax.index 8 1 none t10 (ug L 1)) fun t14 =>
 M.join (M.ite t14
 (uB .shl (uc 1) (ug L 1) fun t18 =>
 uB .or (ug L 0) t18 fun t19 =>
 M.pure (.nrm [t19]))
 (M.pure (.nrm [(ug L 0)]))) fun L0 =>
 M.pure (.nrm [(ug L0 0)])) fun L1 =>
 uB .add (ug L 1) (uc 1) fun t20 =>
 M.pure (.nrm [(ug L1 0),t20]))
 (M.pure (.ex 0 [(ug L 0)]))
def zhy (G:Sem') (t0:V):M Res :=
 uO zaf t0 fun t1 =>
 uS 16 t1 fun t6 =>
 (G zbJ [t6]).bind fun t7 =>
 uL (Ax.un .not t7) fun t8 =>
 M.ite t8
 (M.pure (.ret [(uc 0)]))
 (uF 0 t1 fun t9 =>
 uS 8 t9 fun t10 =>
 M.blk 0 (
 M.iter (zd6 G t10 (uc 0)) [(uc 0),(uc 0)]) fun L2 =>
 M.pure (.ret [(ug L2 0)]))
theorem zke {t0:V}:OkT zcw [t0] (zhy (sem T) t0):=okT (by kernel_rfl) (by kernel_rfl) (by kernel_rfl)
def zgG (G:Sem') (t0:V):M Res :=
 uL (eqr .sl false t0 V.nils) fun t4 =>
 M.ite t4
 (M.pure (.ret [V.nils]))
 ((zcM zaw 0 [(ub 0)] []).bind fun t5 =>
 (zaC zaw 1 1 t5 t0).bind fun t7 =>
 M.pure (.ret [t7]))
theorem zi9 {t0:V}:OkT zca [t0] (zgG (sem T) t0):=okT (by kernel_rfl) (by kernel_rfl) (by kernel_rfl)
def zeU (G:Sem') (t0 t1 t2 t3:V):M Res :=
 uNF 1470 t0 fun t11 =>
 uI (some 64) 1 t11 t1 fun t12 =>
 uM t12 fun t13 =>
 M.getH.bind fun h0 =>
 (G zca [t3]).bind fun t17 =>
 M.getH.bind fun h0' =>
 uU t12 h0 h0' fun _ =>
 uL (Ax.build [(uc 0),(uc 0),V.nils] [(0,1,t1),(1,1,t2),(2,1,t17)]) fun t18 =>
 (G za4 [t13,t18]).bind fun t19 =>
 uL (Ax.un .not t19) fun t20 =>
 M.join (M.ite t20
 (uNFM 1534 t0 fun t24 =>
 (G zaR [t24,(uc 10)]).bind fun t25 =>
 M.pure (.nrm []))
 (M.pure (.nrm []))) fun _ =>
 M.pure (.ret [])
theorem zgW {t0 t1 t2 t3:V}:OkT zb5 [t0,t1,t2,t3] (zeU (sem T) t0 t1 t2 t3):=okT (by kernel_rfl) (by kernel_rfl) (by kernel_rfl)
def zcp (G:Sem') (t0 t1:V):M Res :=
 uO zbv t1 fun t3 =>
 uNFM 1 t0 fun t8 =>
 uL (vlen t8) fun t9 =>
 uNFM 0 t0 fun t13 =>
 uB .geq t9 t13 fun t14 =>
 M.ite t14
 (M.pure (.ret [(V.bool false)]))
 (uNFM 1 t0 fun t19 =>
 uS 3 t3 fun t20 =>
 (zcM zbv 1 [(uc 0),(uc 0),V.nils] [(0,3,t20)]).bind fun t21 =>
 (zaC zbv 3 40 t19 t21).bind fun t22 =>
 uNF 1 t0 fun t24 =>
 uT 1 t24 t22 fun _ =>
 M.pure (.ret [(V.bool true)]))
theorem zd1 {t0 t1:V}:OkT za4 [t0,t1] (zcp (sem T) t0 t1):=okT (by kernel_rfl) (by kernel_rfl) (by kernel_rfl)
end Go.Ax
/- FnS3 -/
namespace Go.Ax
open Go.Proofs
end Go.Ax
/- FnS4 -/
namespace Go.Ax
open Go.Proofs
end Go.Ax
/- FnS5 -/
namespace Go.Ax
open Go.Proofs
end Go.Ax
/- FnS6 -/
namespace Go.Ax
open Go.Proofs
def zdc (G:Sem') (t0 t1 t2:V):M Res :=
 (G zds [t2]).bind fun t13 =>
 uE 0 t13 fun t14 =>
 uE 1 t13 fun t15 =>
 uO zac (V.agg [(uc 0),(uc 0),(uc 0),(uc 0),(uc 0),(uc 0),V.nils]) fun t6 =>
 uT 7 t6 t14 fun _ =>
 uB .eql t15 (uc 0) fun t17 =>
 uH t17 true (Ax.faddr 0 t6) fun t19 =>
 uG t17 true (zam none t19) fun t20 =>
 uH t17 true (Ax.bin .gtr t20 (uc 9)) fun t21 =>
 uL (Ax.pick t17 t21 (V.bool false)) fun t22 =>
 M.join (M.ite t22
 (M.pure (.nrm [(uc 1)]))
 (M.pure (.nrm [t15]))) fun L0 =>
 uB .neq (ug L0 0) (uc 0) fun t24 =>
 M.ite t24
 ((G zbX [t0,t1,(ug L0 0),(uc 0)]).bind fun t28 =>
 M.pure (.ret []))
 ((G zbp [t0,t1]).bind fun t32 =>
 uE 0 t32 fun t33 =>
 uE 1 t32 fun t34 =>
 uE 2 t32 fun t35 =>
 M.join (M.ite t35
 ((G zbr [t0,t33,t1]).bind fun t40 =>
 M.pure (.nrm []))
 (M.pure (.nrm []))) fun _ =>
 M.blk 0 (
 uFM 0 t6 fun t48 =>
 uB .eql t48 (uc 1) fun t49 =>
 uG t49 true (M.pure t35) fun t51 =>
 uL (Ax.pick t49 t51 (V.bool false)) fun t52 =>
 M.join (M.ite t52
 (M.pure (.nrm [(uc 7)]))
 (uFM 0 t6 fun t55 =>
 uB .eql t55 (uc 1) fun t56 =>
 M.join (M.ite t56
 (uS 7 t6 fun t59 =>
 (G zb6 [t0,t1,t59]).bind fun t60 =>
 M.pure (.nrm [t60]))
 (uL (Ax.un .not t35) fun t63 =>
 M.join (M.ite t63
 (M.pure (.nrm [(uc 6)]))
 (uS 7 t6 fun t44 =>
 (G zek [t0,t33,t34,t44]).bind fun t45 =>
 M.pure (.nrm [t45]))) fun L2 =>
 M.pure (.nrm [(ug L2 0)]))) fun L3 =>
 M.pure (.nrm [(ug L3 0)]))) fun L4 =>
 M.pure (.nrm [(ug L4 0)])) fun L5 =>
 uB .neq (ug L5 0) (uc 0) fun t65 =>
 M.join (M.ite t65
 (uFM 0 t6 fun t70 =>
 (G zbX [t0,t1,(ug L5 0),t70]).bind fun t71 =>
 M.pure (.nrm []))
 (M.pure (.nrm []))) fun _ =>
 M.pure (.ret []))
theorem zeg {t0 t1 t2:V}:OkT za1 [t0,t1,t2] (zdc (sem T) t0 t1 t2):=okT (by kernel_rfl) (by kernel_rfl) (by kernel_rfl)
def zhF (G:Sem') (t0:V):M Res :=
 uO zcL t0 fun t1 =>
 uO zac (V.agg [(uc 0),(uc 0),(uc 0),(uc 0),(uc 0),(uc 0),V.nils]) fun t2 =>
 uM t1 fun t8 =>
 uL (vlen t8) fun t9 =>
 uB .lss t9 (uc 11) fun t10 =>
 M.ite t10
 (uL (Ax.build [(uc 0),(uc 0),(uc 0),(uc 0),(uc 0),(uc 0),V.nils] []) fun t11 =>
 uT 7 t2 t11 fun _ =>
 uS 7 t2 fun r0 =>
 M.pure (.ret [r0,(uc 3)]))
 ((M.pure (.fn za9 [t1])).bind fun t12 =>
 uM t1 fun t13 =>
 uI none 1 t13 (uc 0) fun t14 =>
 uM t14 fun t15 =>
 uL (Ax.cint .i64 t15) fun t16 =>
 uM t1 fun t17 =>
 uI none 1 t17 (uc 1) fun t18 =>
 uM t18 fun t19 =>
 uL (Ax.cint .i64 t19) fun t20 =>
 uM t1 fun t21 =>
 uI none 1 t21 (uc 2) fun t22 =>
 uM t22 fun t23 =>
 uL (Ax.cint .i64 t23) fun t24 =>
 M.getH.bind fun h0 =>
 (callv G t12 [(uc 3)]).bind fun t26 =>
 M.getH.bind fun h0' =>
 uU t22 h0 h0' fun _ =>
 uU t1 h0 h0' fun _ =>
 uU t18 h0 h0' fun _ =>
 uU t1 h0 h0' fun _ =>
 uU t14 h0 h0' fun _ =>
 uU t1 h0 h0' fun _ =>
 M.getH.bind fun h1 =>
 (callv G t12 [(uc 5)]).bind fun t28 =>
 M.getH.bind fun h1' =>
 uU t22 h1 h1' fun _ =>
 uU t1 h1 h1' fun _ =>
 uU t18 h1 h1' fun _ =>
 uU t1 h1 h1' fun _ =>
 uU t14 h1 h1' fun _ =>
 uU t1 h1 h1' fun _ =>
 M.getH.bind fun h2 =>
 (callv G t12 [(uc 7)]).bind fun t30 =>
 M.getH.bind fun h2' =>
 uU t22 h2 h2' fun _ =>
 uU t1 h2 h2' fun _ =>
 uU t18 h2 h2' fun _ =>
 uU t1 h2 h2' fun _ =>
 uU t14 h2 h2' fun _ =>
 uU t1 h2 h2' fun _ =>
 uL (Ax.build [(uc 0),(uc 0),(uc 0),(uc 0),(uc 0),(uc 0),V.nils] [(0,1,t16),(1,1,t20),(2,1,t24),(3,1,t26),(4,1,t28),(5,1,t30)]) fun t31 =>
 uO zac (V.agg [(uc 0),(uc 0),(uc 0),(uc 0),(uc 0),(uc 0),V.nils]) fun t5 =>
 uT 7 t5 t31 fun _ =>
 uM t1 fun t34 =>
 uL (zbA .sl 1 t34 (some (uc 11)) none none) fun t35 =>
 M.getH.bind fun h3 =>
 (callv G t12 [(uc 9)]).bind fun t33 =>
 M.getH.bind fun h3' =>
 uU t1 h3 h3' fun _ =>
 M.blk 0 (
 uB .gtr t33 (uc 200) fun t38 =>
 M.ite t38
 (uL (Ax.build [(uc 0),(uc 0),(uc 0),(uc 0),(uc 0),(uc 0),V.nils] []) fun t39 =>
 uT 7 t2 t39 fun _ =>
 uS 7 t2 fun r0 =>
 M.pure (.ret [r0,(uc 4)]))
 (uL (vlen t35) fun t43 =>
 uB .gtr t33 t43 fun t44 =>
 M.ite t44
 (uL (Ax.build [(uc 0),(uc 0),(uc 0),(uc 0),(uc 0),(uc 0),V.nils] []) fun t45 =>
 uT 7 t2 t45 fun _ =>
 uS 7 t2 fun r0 =>
 M.pure (.ret [r0,(uc 3)]))
 (uL (vlen t35) fun t49 =>
 uB .lss t33 t49 fun t50 =>
 M.ite t50
 (uL (Ax.build [(uc 0),(uc 0),(uc 0),(uc 0),(uc 0),(uc 0),V.nils] []) fun t51 =>
 uT 7 t2 t51 fun _ =>
 uS 7 t2 fun r0 =>
 M.pure (.ret [r0,(uc 2)]))
 (M.pure (.nrm []))))) fun _ =>
 (G zca [t35]).bind fun t53 =>
 uF 6 t5 fun t54 =>
 uT 1 t54 t53 fun _ =>
 uS 7 t5 fun t55 =>
 (G zbW [t55]).bind fun t56 =>
 uL (Ax.un .not t56) fun t57 =>
 M.ite t57
 (uL (Ax.build [(uc 0),(uc 0),(uc 0),(uc 0),(uc 0),(uc 0),V.nils] []) fun t58 =>
 uT 7 t2 t58 fun _ =>
 uS 7 t2 fun r0 =>
 M.pure (.ret [r0,(uc 2)]))
 (uS 7 t5 fun t59 =>
 uT 7 t2 t59 fun _ =>
 uS 7 t2 fun r0 =>
 M.pure (.ret [r0,(uc 0)])))
theorem zkl {t0:V}:OkT zds [t0] (zhF (sem T) t0):=okT (by kernel_rfl) (by kernel_rfl) (by kernel_rfl)
def zfK (G:Sem') (t0 t1:V):M Res :=
 uM t1 fun t4 =>
 uIM none 1 t4 t0 fun t7 =>
 uL (Ax.cint .i64 t7) fun t8 =>
 uB .shl t8 (uq 8) fun t9 =>
 uM t1 fun t10 =>
 uB .add t0 (uc 1) fun t12 =>
 uIM none 1 t10 t12 fun t14 =>
 uL (Ax.cint .i64 t14) fun t15 =>
 uB .or t9 t15 fun t16 =>
 M.pure (.ret [t16])
theorem zim {t0 t1:V}:OkT za9 [t0,t1] (zfK (sem T) t0 t1):=okT (by kernel_rfl) (by kernel_rfl) (by kernel_rfl)
def zeM (G:Sem') (t0:V):M Res :=
 uO zac t0 fun t1 =>
 uFM 0 t1 fun t7 =>
 (G zfv [t7]).bind fun t8 =>
 uE 0 t8 fun t9 =>
 uE 1 t8 fun t10 =>
 uO zcU (V.agg [(uc 0),(uc 0),(uc 0),(uc 0),(uc 0),(uc 0),(uc 0)]) fun t3 =>
 uT 7 t3 t9 fun _ =>
 uL (Ax.un .not t10) fun t12 =>
 uH t12 false (Ax.faddr 1 t1) fun t14 =>
 uG t12 false (zam none t14) fun t15 =>
 uH t12 false (Ax.faddr 0 t3) fun t16 =>
 uG t12 false (zam none t16) fun t17 =>
 uG t12 false (G za5 [t15,t17]) fun t18 =>
 uH t12 false (Ax.un .not t18) fun t19 =>
 uL (Ax.pick t12 (V.bool true) t19) fun t20 =>
 uH t20 false (Ax.faddr 2 t1) fun t22 =>
 uG t20 false (zam none t22) fun t23 =>
 uH t20 false (Ax.faddr 1 t3) fun t24 =>
 uG t20 false (zam none t24) fun t25 =>
 uG t20 false (G za5 [t23,t25]) fun t26 =>
 uH t20 false (Ax.un .not t26) fun t27 =>
 uL (Ax.pick t20 (V.bool true) t27) fun t28 =>
 uH t28 false (Ax.faddr 3 t1) fun t30 =>
 uG t28 false (zam none t30) fun t31 =>
 uH t28 false (Ax.faddr 2 t3) fun t32 =>
 uG t28 false (zam none t32) fun t33 =>
 uG t28 false (G za5 [t31,t33]) fun t34 =>
 uH t28 false (Ax.un .not t34) fun t35 =>
 uL (Ax.pick t28 (V.bool true) t35) fun t36 =>
 uH t36 false (Ax.faddr 4 t1) fun t38 =>
 uG t36 false (zam none t38) fun t39 =>
 uH t36 false (Ax.faddr 3 t3) fun t40 =>
 uG t36 false (zam none t40) fun t41 =>
 uG t36 false (G za5 [t39,t41]) fun t42 =>
 uH t36 false (Ax.un .not t42) fun t43 =>
 uL (Ax.pick t36 (V.bool true) t43) fun t44 =>
 uH t44 false (Ax.faddr 5 t1) fun t46 =>
 uG t44 false (zam none t46) fun t47 =>
 uH t44 false (Ax.faddr 4 t3) fun t48 =>
 uG t44 false (zam none t48) fun t49 =>
 uG t44 false (G za5 [t47,t49]) fun t50 =>
 uH t44 false (Ax.un .not t50) fun t51 =>
 uL (Ax.pick t44 (V.bool true) t51) fun t52 =>
 uH t52 false (Ax.faddr 6 t1) fun t54 =>
 uG t52 false (zam none t54) fun t55 =>
 uH t52 false (vlen t55) fun t56 =>
 uH t52 false (Ax.faddr 5 t3) fun t57 =>
 uG t52 false (zam none t57) fun t58 =>
 uH t52 false (Ax.bin .lss t56 t58) fun t59 =>
 uL (Ax.pick t52 (V.bool true) t59) fun t60 =>
 uH t60 false (Ax.faddr 6 t1) fun t62 =>
 uG t60 false (zam none t62) fun t63 =>
 uH t60 false (vlen t63) fun t64 =>
 uH t60 false (Ax.faddr 6 t3) fun t65 =>
 uG t60 false (zam none t65) fun t66 =>
 uH t60 false (Ax.bin .gtr t64 t66) fun t67 =>
 uL (Ax.pick t60 (V.bool true) t67) fun t68 =>
 M.ite t68
 (M.pure (.ret [(V.bool false)]))
 (uFM 0 t1 fun t70 =>
 M.blk 0 (
 uB .eql t70 (uc 17) fun t72 =>
 M.ite t72
 (uS 7 t1 fun t73 =>
 (G zcA [t73]).bind fun t74 =>
 M.pure (.ret [t74]))
 (uB .eql t70 (uc 18) fun t76 =>
 M.ite t76
 (uFM 4 t1 fun t78 =>
 uB .geq t78 (uc 1) fun t79 =>
 M.pure (.ret [t79]))
 (uB .eql t70 (uc 19) fun t81 =>
 M.ite t81
 (uFM 4 t1 fun t83 =>
 uFM 2 t1 fun t85 =>
 uB .shr t83 t85 fun t86 =>
 uB .and t86 (uc 1) fun t87 =>
 uB .eql t87 (uc 1) fun t88 =>
 M.pure (.ret [t88]))
 (uB .eql t70 (uc 20) fun t90 =>
 M.ite t90
 (uFM 4 t1 fun t92 =>
 uFM 2 t1 fun t94 =>
 uB .shr t92 t94 fun t95 =>
 uB .and t95 (uc 1) fun t96 =>
 uB .eql t96 (uc 0) fun t97 =>
 M.pure (.ret [t97]))
 (M.pure (.nrm [])))))) fun _ =>
 M.pure (.ret [(V.bool true)]))
theorem zfa {t0:V}:OkT zbW [t0] (zeM (sem T) t0):=okT (by kernel_rfl) (by kernel_rfl) (by kernel_rfl)
def zlP (G:Sem') (t0:V):M Res :=
 uO zcU (V.agg [(uc 0),(uc 0),(uc 0),(uc 0),(uc 0),(uc 0),(uc 0)]) fun t2 =>
 M.blk 0 (
 uB .eql t0 (uc 1) fun t6 =>
 M.ite t6
 (uL (Ax.build [(uc 0),(uc 0),(uc 0),(uc 0),(uc 0),(uc 0),(uc 0)] [(0,1,(uc 3))]) fun t7 =>
 uT 7 t2 t7 fun _ =>
 uS 7 t2 fun r0 =>
 M.pure (.ret [r0,(V.bool true)]))
 (uB .eql t0 (uc 2) fun t9 =>
 M.join (M.ite t9
 (M.pure (.nrm [t9]))
 (uB .eql t0 (uc 9) fun t10 =>
 M.join (M.ite t10
 (M.pure (.nrm [t10]))
 (uB .eql t0 (uc 23) fun t11 =>
 M.pure (.nrm [t11]))) fun L0 =>
 M.pure (.nrm [(ug L0 0)]))) fun L1 =>
 M.ite (ug L1 0)
 (uL (Ax.build [(uc 0),(uc 0),(uc 0),(uc 0),(uc 0),(uc 0),(uc 0)] []) fun t12 =>
 uT 7 t2 t12 fun _ =>
 uS 7 t2 fun r0 =>
 M.pure (.ret [r0,(V.bool true)]))
 (uB .eql t0 (uc 3) fun t14 =>
 M.join (M.ite t14
 (M.pure (.nrm [t14]))
 (uB .eql t0 (uc 6) fun t15 =>
 M.pure (.nrm [t15]))) fun L2 =>
 M.ite (ug L2 0)
 (uL (Ax.build [(uc 0),(uc 0),(uc 0),(uc 0),(uc 0),(uc 0),(uc 0)] [(1,1,(uc 7))]) fun t16 =>
 uT 7 t2 t16 fun _ =>
 uS 7 t2 fun r0 =>
 M.pure (.ret [r0,(V.bool true)]))
 (uB .eql t0 (uc 4) fun t18 =>
 M.ite t18
 (uL (Ax.build [(uc 0),(uc 0),(uc 0),(uc 0),(uc 0),(uc 0),(uc 0)] [(3,1,(uc 2)),(4,1,(uc 65535)),(5,1,(uc 4)),(6,1,(uc 4))]) fun t19 =>
 uT 7 t2 t19 fun _ =>
 uS 7 t2 fun r0 =>
 M.pure (.ret [r0,(V.bool true)]))
 (uB .eql t0 (uc 5) fun t21 =>
 M.ite t21
 (uL (Ax.build [(uc 0),(uc 0),(uc 0),(uc 0),(uc 0),(uc 0),(uc 0)] [(1,1,(uc 7)),(3,1,(uc 3)),(4,1,(uc 7))]) fun t22 =>
 uT 7 t2 t22 fun _ =>
 uS 7 t2 fun r0 =>
 M.pure (.ret [r0,(V.bool true)]))
 (uB .eql t0 (uc 7) fun t24 =>
 M.join (M.ite t24
 (M.pure (.nrm [t24]))
 (uB .eql t0 (uc 21) fun t25 =>
 M.pure (.nrm [t25]))) fun L3 =>
 M.ite (ug L3 0)
 (uL (Ax.build [(uc 0),(uc 0),(uc 0),(uc 0),(uc 0),(uc 0),(uc 0)] [(1,1,(uc 7)),(2,1,(uc 65535)),(3,1,(uc 31)),(5,1,(uc 1)),(6,1,(uc 200))]) fun t26 =>
 uT 7 t2 t26 fun _ =>
 uS 7 t2 fun r0 =>
 M.pure (.ret [r0,(V.bool true)]))
 (uB .eql t0 (uc 8) fun t28 =>
 M.join (M.ite t28
 (M.pure (.nrm [t28]))
 (uB .eql t0 (uc 22) fun t29 =>
 M.pure (.nrm [t29]))) fun L4 =>
 M.ite (ug L4 0)
 (uL (Ax.build [(uc 0),(uc 0),(uc 0),(uc 0),(uc 0),(uc 0),(uc 0)] [(2,1,(uc 65535))]) fun t30 =>
 uT 7 t2 t30 fun _ =>
 uS 7 t2 fun r0 =>
 M.pure (.ret [r0,(V.bool true)]))
 (uB .eql t0 (uc 17) fun t32 =>
 M.ite t32
 (uL (Ax.build [(uc 0),(uc 0),(uc 0),(uc 0),(uc 0),(uc 0),(uc 0)] [(0,1,(uc 3)),(1,1,(uc 7)),(2,1,(uc 65535)),(3,1,(uc 255)),(4,1,(uc 65535)),(5,1,(uc 8)),(6,1,(uc 8))]) fun t33 =>
 uT 7 t2 t33 fun _ =>
 uS 7 t2 fun r0 =>
 M.pure (.ret [r0,(V.bool true)]))
 (uB .eql t0 (uc 18) fun t35 =>
 M.ite t35
 (uL (Ax.build [(uc 0),(uc 0),(uc 0),(uc 0),(uc 0),(uc 0),(uc 0)] [(3,1,(uc 13)),(4,1,(uc 9))]) fun t36 =>
 uT 7 t2 t36 fun _ =>
 uS 7 t2 fun r0 =>
 M.pure (.ret [r0,(V.bool true)]))
 (uB .eql t0 (uc 19) fun t38 =>
 M.ite t38
 (uL (Ax.build [(uc 0),(uc 0),(uc 0),(uc 0),(uc 0),(uc 0),(uc 0)] [(1,1,(uc 7)),(2,1,(uc 65535)),(3,1,(uc 255)),(4,1,(uc 63))]) fun t39 =>
 uT 7 t2 t39 fun _ =>
 uS 7 t2 fun r0 =>
 M.pure (.ret [r0,(V.bool true)]))
 (uB .eql t0 (uc 20) fun t41 =>
 M.ite t41
 (uL (Ax.build [(uc 0),(uc 0),(uc 0),(uc 0),(uc 0),(uc 0),(uc 0)] [(1,1,(uc 7)),(2,1,(uc 65535)),(3,1,(uc 255))]) fun t42 =>
 uT 7 t2 t42 fun _ =>
 uS 7 t2 fun r0 =>
 M.pure (.ret [r0,(V.bool true)]))
 (uB .eql t0 (uc 24) fun t44 =>
 M.ite t44
 (uL (Ax.build [(uc 0),(uc 0),(uc 0),(uc 0),(uc 0),(uc 0),(uc 0)] [(1,1,(uc 7)),(5,1,(uc 4)),(6,1,(uc 4))]) fun t45 =>
 uT 7 t2 t45 fun _ =>
 uS 7 t2 fun r0 =>
 M.pure (.ret [r0,(V.bool true)]))
 (M.pure (.nrm [])))))))))))))) fun _ =>
 uL (Ax.build [(uc 0),(uc 0),(uc 0),(uc 0),(uc 0),(uc 0),(uc 0)] []) fun t46 =>
 uT 7 t2 t46 fun _ =>
 uS 7 t2 fun r0 =>
 M.pure (.ret [r0,(V.bool false)])
theorem znE {t0:V}:OkT zfv [t0] (zlP (sem T) t0):=okT (by kernel_rfl) (by kernel_rfl) (by kernel_rfl)
def zgE (G:Sem') (t0 t1:V):M Res :=
 uB .geq t0 (uc 0) fun t6 =>
 uG t6 true (M.pure t0) fun t8 =>
 uG t6 true (M.pure t1) fun t9 =>
 uH t6 true (Ax.bin .leq t8 t9) fun t10 =>
 uL (Ax.pick t6 t10 (V.bool false)) fun t11 =>
 M.pure (.ret [t11])
theorem zi7 {t0 t1:V}:OkT za5 [t0,t1] (zgE (sem T) t0 t1):=okT (by kernel_rfl) (by kernel_rfl) (by kernel_rfl)
def zdb (G:Sem') (t8 t7 t1:V) (L:List V):M Res :=
 uB .lss (ug L 0) t8 fun t10 =>
 M.ite t10
 (M.blk 1 (
 uIM none 1 t7 (ug L 0) fun t13 =>
 uFM 4 t1 fun t15 =>
 uB .shr t15 (ug L 0) fun t17 =>
 uB .and t17 (uc 1) fun t18 =>
 uB .eql t18 (uc 1) fun t19 =>
 uG t19 true (M.pure t13) fun t22 =>
 uH t19 true (Ax.bin .gtr t22 (ub 63)) fun t23 =>
 uL (Ax.pick t19 t23 (V.bool false)) fun t24 =>
 uG t24 false (M.pure t19) fun t26 =>
 uH t24 false (Ax.un .not t26) fun t27 =>
 uG t24 false (M.pure t27) fun t28 =>
 uG t28 true (M.pure t13) fun t29 =>
 uH t28 true (Ax.bin .neq t29 (ub 255)) fun t30 =>
 uH t24 false (Ax.pick t28 t30 (V.bool false)) fun t31 =>
 uL (Ax.pick t24 (V.bool true) t31) fun t32 =>
 M.ite t32
 (M.pure (.ret [(V.bool false)]))
 (M.pure (.nrm []))) fun _ =>
 uB .add (ug L 0) (uc 1) fun t33 =>
 M.pure (.nrm [t33]))
 (M.pure (.ex 0 []))
def zfJ (G:Sem') (t0:V):M Res :=
 uO zac t0 fun t1 =>
 uFM 6 t1 fun t7 =>
 uL (vlen t7) fun t8 =>
 M.blk 0 (
 M.iter (zdb G t8 t7 t1) [(uc 0)]) fun _ =>
 uFM 5 t1 fun t35 =>
 uFM 3 t1 fun t37 =>
 uB .geq t35 t37 fun t38 =>
 uH t38 true (Ax.faddr 4 t1) fun t40 =>
 uG t38 true (zam none t40) fun t41 =>
 uH t38 true (Ax.faddr 2 t1) fun t42 =>
 uG t38 true (zam none t42) fun t43 =>
 uH t38 true (Ax.bin .shr t41 t43) fun t44 =>
 uH t38 true (Ax.bin .and t44 (uc 1)) fun t45 =>
 uH t38 true (Ax.bin .eql t45 (uc 1)) fun t46 =>
 uL (Ax.pick t38 t46 (V.bool false)) fun t47 =>
 M.pure (.ret [t47])
theorem zil {t0:V}:OkT zcA [t0] (zfJ (sem T) t0):=okT (by kernel_rfl) (by kernel_rfl) (by kernel_rfl)
end Go.Ax
/- FnS7 -/
namespace Go.Ax
open Go.Proofs
def zfL (G:Sem') (t0 t1 t2 t3:V):M Res :=
 uL (Ax.build [(uc 0),(uc 0),(uc 0),(uc 0),(uc 0),(uc 0),V.nils] [(0,1,(uc 18)),(4,1,t2),(5,1,t3)]) fun t12 =>
 (G zbe [t0,t1,t12]).bind fun t13 =>
 M.pure (.ret [])
theorem zin {t0 t1 t2 t3:V}:OkT zbX [t0,t1,t2,t3] (zfL (sem T) t0 t1 t2 t3):=okT (by kernel_rfl) (by kernel_rfl) (by kernel_rfl)
def zdI (G:Sem') (t0 t1 t2:V):M Res :=
 uO zac t2 fun t5 =>
 uS 7 t5 fun t9 =>
 (G zcB [t9]).bind fun t10 =>
 uE 0 t10 fun t11 =>
 uE 1 t10 fun t12 =>
 uB .eql t12 (uc 0) fun t14 =>
 M.join (M.ite t14
 ((G zb5 [t0,t1,(uc 2),t11]).bind fun t18 =>
 M.pure (.nrm []))
 (M.pure (.nrm []))) fun _ =>
 M.pure (.ret [])
theorem zeR {t0 t1 t2:V}:OkT zbe [t0,t1,t2] (zdI (sem T) t0 t1 t2):=okT (by kernel_rfl) (by kernel_rfl) (by kernel_rfl)
def zd8 (G:Sem') (t30 t29 t2 t3:V) (L:List V):M Res :=
 uB .lss (ug L 1) t30 fun t32 =>
 M.ite t32
 (M.blk 1 (
 uIM none 1 t29 (ug L 1) fun t34 =>
 uB .shr t34 (uq 8) fun t37 =>
 uL (Ax.cint .u8 t37) fun t38 =>
 uL (Ax.cint .u8 t34) fun t40 =>
 (zcM zaw 2 [(ub 0)] [(0,1,t38),(1,1,t40)]).bind fun t41 =>
 (zaC zaw 1 1 (ug L 0) t41).bind fun t42 =>
 M.pure (.nrm [t42])) fun L0 =>
 uB .add (ug L 1) (uc 1) fun t43 =>
 M.pure (.nrm [(ug L0 0),t43]))
 (M.pure (.ex 0 [(ug L 0)]))
def zhG (G:Sem') (t0:V):M Res :=
 uO zac t0 fun t1 =>
 uS 7 t1 fun t7 =>
 (G zbW [t7]).bind fun t8 =>
 uL (Ax.un .not t8) fun t9 =>
 M.ite t9
 (M.pure (.ret [V.nils,(uc 1)]))
 (uFM 0 t1 fun t11 =>
 uL (Ax.cint .u8 t11) fun t12 =>
 uFM 1 t1 fun t14 =>
 uL (Ax.cint .u8 t14) fun t15 =>
 uFM 2 t1 fun t17 =>
 uL (Ax.cint .u8 t17) fun t18 =>
 (zcM zaw 3 [(ub 0)] [(0,1,t12),(1,1,t15),(2,1,t18)]).bind fun t19 =>
 uFM 3 t1 fun t21 =>
 uFM 4 t1 fun t23 =>
 uFM 5 t1 fun t25 =>
 uFM 6 t1 fun t27 =>
 uL (vlen t27) fun t28 =>
 (zcM ze4 4 [(uc 0)] [(0,1,t21),(1,1,t23),(2,1,t25),(3,1,t28)]).bind fun t29 =>
 uL (vlen t29) fun t30 =>
 M.blk 0 (
 M.iter (zd8 G t30 t29 V.nils (uc 0)) [t19,(uc 0)]) fun L1 =>
 uFM 6 t1 fun t46 =>
 (zaC zaw 1 1 (ug L1 0) t46).bind fun t47 =>
 M.pure (.ret [t47,(uc 0)]))
theorem zkm {t0:V}:OkT zcB [t0] (zhG (sem T) t0):=okT (by kernel_rfl) (by kernel_rfl) (by kernel_rfl)
def zcD (G:Sem') (t47 t8 t6:V) (L:List V):M Res :=
 uB .lss (ug L 1) (uc 8) fun t49 =>
 M.ite t49
 (M.blk 1 (
 uL (Ax.index 8 1 none t47 (ug L 1)) fun t51 =>
 M.join (M.ite t51
 (uF 0 t8 fun t55 =>
 uF 8 t55 fun t56 =>
 uIM (some 8) 1 t56 (ug L 1) fun t58 =>
 uL (Ax.cint .u8 t58) fun t59 =>
 (zcM zaw 1 [(ub 0)] [(0,1,t59)]).bind fun t60 =>
 (zaC zaw 1 1 (ug L 0) t60).bind fun t61 =>
 M.pure (.nrm [t61]))
 ((zcM zaw 1 [(ub 0)] [(0,1,(ub 255))]).bind fun t63 =>
 (zaC zaw 1 1 (ug L 0) t63).bind fun t64 =>
 M.pure (.nrm [t64]))) fun L0 =>
 M.pure (.nrm [(ug L0 0)])) fun L1 =>
 uB .add (ug L 1) (uc 1) fun t65 =>
 M.pure (.nrm [(ug L1 0),t65]))
 (M.pure (.ex 0 [(ug L 0)]))
def zeV (G:Sem') (t0 t1 t2:V):M Res :=
 uO zac t2 fun t5 =>
 uFM 1 t5 fun t17 =>
 uNF 0 t0 fun t19 =>
 uI (some 4) 367 t19 t17 fun t20 =>
 uNF 0 t20 fun t24 =>
 uS 39 t24 fun t25 =>
 uNFM 1468 t0 fun t30 =>
 (G zdS [t25,t1,t30]).bind fun t31 =>
 uE 0 t31 fun t32 =>
 uO zao (V.agg [(V.bool false),(V.bool false),(V.bool false),(V.bool false),(V.bool false),(V.bool false),(V.bool false),(V.bool false),(uc 0),(uc 0),(uc 0),(uc 0),(uc 0),(uc 0),(uc 0),(uc 0),(uc 0),(V.bool false),(uc 0),(uc 0),(uc 0),(uc 0),(uc 0),(uc 0),(uc 0),(uc 0),(uc 0),(uc 0),(uc 0),(uc 0),(uc 0),(uc 0),(uc 0),(uc 0),(uc 0),(uc 0),(uc 0),(uc 0),(V.bool false)]) fun t8 =>
 uT 39 t8 t32 fun _ =>
 uE 1 t31 fun t33 =>
 uE 2 t31 fun t34 =>
 uB .neq t34 (uc 0) fun t36 =>
 M.ite t36
 (M.pure (.ret [t34]))
 (uS 39 t8 fun t39 =>
 uNF 0 t20 fun t41 =>
 uT 39 t41 t39 fun _ =>
 uF 0 t8 fun t42 =>
 uS 16 t42 fun t43 =>
 (G zcw [t43]).bind fun t44 =>
 uF 0 t8 fun t45 =>
 uF 0 t45 fun t46 =>
 uS 8 t46 fun t47 =>
 M.blk 0 (
 M.iter (zcD G t47 t8 (uc 0)) [V.nils,(uc 0)]) fun L2 =>
 uF 1 t5 fun t68 =>
 uM t68 fun t69 =>
 uF 16 t8 fun t71 =>
 uF 0 t71 fun t72 =>
 uM t72 fun t73 =>
 M.getH.bind fun h0 =>
 (G zcV [t20]).bind fun t76 =>
 M.getH.bind fun h0' =>
 uU t72 h0 h0' fun _ =>
 uU t68 h0 h0' fun _ =>
 uL (Ax.build [(uc 0),(uc 0),(uc 0),(uc 0),(uc 0),(uc 0),V.nils] [(0,1,(uc 17)),(1,1,t69),(2,1,t33),(3,1,t73),(4,1,t44),(5,1,t76),(6,1,(ug L2 0))]) fun t78 =>
 (G zbe [t0,t1,t78]).bind fun t79 =>
 uF 16 t8 fun t84 =>
 uFM 0 t84 fun t86 =>
 uL (Ax.build [(uc 0),(uc 0),(uc 0),(uc 0),(uc 0),(uc 0),V.nils] [(0,1,(uc 19)),(2,1,t33),(3,1,t86),(4,1,t44),(5,1,t1)]) fun t89 =>
 (G zcc [t0,t20,t33,t89]).bind fun t90 =>
 M.pure (.ret [(uc 0)]))
theorem zgX {t0 t1 t2:V}:OkT zb6 [t0,t1,t2] (zeV (sem T) t0 t1 t2):=okT (by kernel_rfl) (by kernel_rfl) (by kernel_rfl)
def ziO (G:Sem') (t0 t1 t2:V):M Res :=
 uO zao t0 fun t3 =>
 uO zao (V.agg [(V.bool false),(V.bool false),(V.bool false),(V.bool false),(V.bool false),(V.bool false),(V.bool false),(V.bool false),(uc 0),(uc 0),(uc 0),(uc 0),(uc 0),(uc 0),(uc 0),(uc 0),(uc 0),(V.bool false),(uc 0),(uc 0),(uc 0),(uc 0),(uc 0),(uc 0),(uc 0),(uc 0),(uc 0),(uc 0),(uc 0),(uc 0),(uc 0),(uc 0),(uc 0),(uc 0),(uc 0),(uc 0),(uc 0),(uc 0),(V.bool false)]) fun t6 =>
 M.blk 0 (
 uS 39 t3 fun t14 =>
 (G zc3 [t14]).bind fun t15 =>
 uL (Ax.un .not t15) fun t16 =>
 M.ite t16
 (uS 39 t3 fun t17 =>
 uT 39 t6 t17 fun _ =>
 uS 39 t6 fun r0 =>
 M.pure (.ret [r0,(uc 0),(uc 1)]))
 (uFM 38 t3 fun t20 =>
 M.ite t20
 (uS 39 t3 fun t21 =>
 uT 39 t6 t21 fun _ =>
 uS 39 t6 fun r0 =>
 M.pure (.ret [r0,(uc 0),(uc 12)]))
 (M.pure (.nrm [])))) fun _ =>
 uF 0 t3 fun t23 =>
 uS 16 t23 fun t24 =>
 (G zdn [t24,t1]).bind fun t26 =>
 uE 0 t26 fun t27 =>
 uE 1 t26 fun t28 =>
 uE 2 t26 fun t29 =>
 uO zaf (V.agg [(V.bool false),(V.bool false),(V.bool false),(V.bool false),(V.bool false),(V.bool false),(V.bool false),(V.bool false),(uc 0),(uc 0),(uc 0),(uc 0),(uc 0),(uc 0),(uc 0),(uc 0)]) fun t9 =>
 uT 16 t9 t27 fun _ =>
 uB .neq t29 (uc 0) fun t31 =>
 M.ite t31
 (uS 39 t3 fun t32 =>
 uT 39 t6 t32 fun _ =>
 uS 39 t6 fun r0 =>
 M.pure (.ret [r0,(uc 0),t29]))
 (uF 16 t3 fun t35 =>
 uS 6 t35 fun t36 =>
 (G zdq [t36,t28]).bind fun t38 =>
 uE 0 t38 fun t39 =>
 uE 1 t38 fun t40 =>
 uO zar (V.agg [(uc 0),(V.bool false),(uc 0),(uc 0),(uc 0),(uc 0)]) fun t12 =>
 uT 6 t12 t39 fun _ =>
 uB .neq t40 (uc 0) fun t42 =>
 M.ite t42
 (uS 39 t3 fun t43 =>
 uT 39 t6 t43 fun _ =>
 uS 39 t6 fun r0 =>
 M.pure (.ret [r0,(uc 0),t40]))
 (uS 16 t9 fun t45 =>
 uS 6 t12 fun t46 =>
 uF 0 t3 fun t47 =>
 M.getH.bind fun h0 =>
 uT 16 t47 t45 fun _ =>
 M.getH.bind fun h0' =>
 uU t12 h0 h0' fun _ =>
 uF 16 t3 fun t48 =>
 uT 6 t48 t46 fun _ =>
 uF 0 t12 fun t52 =>
 uM t52 fun t53 =>
 uF 22 t3 fun t54 =>
 uI (some 8) 1 t54 t28 fun t55 =>
 uF 30 t3 fun t56 =>
 M.getH.bind fun h1 =>
 uT 1 t55 t2 fun _ =>
 M.getH.bind fun h1' =>
 uU t52 h1 h1' fun _ =>
 uI (some 8) 1 t56 t28 fun t57 =>
 uT 1 t57 t53 fun _ =>
 uS 39 t3 fun t58 =>
 uT 39 t6 t58 fun _ =>
 uS 39 t6 fun r0 =>
 M.pure (.ret [r0,t28,(uc 0)])))
theorem zle {t0 t1 t2:V}:OkT zdS [t0,t1,t2] (ziO (sem T) t0 t1 t2):=okT (by kernel_rfl) (by kernel_rfl) (by kernel_rfl)
def zhx (G:Sem') (t0 t1:V):M Res :=
 uO zaf t0 fun t2 =>
 uO zaf (V.agg [(V.bool false),(V.bool false),(V.bool false),(V.bool false),(V.bool false),(V.bool false),(V.bool false),(V.bool false),(uc 0),(uc 0),(uc 0),(uc 0),(uc 0),(uc 0),(uc 0),(uc 0)]) fun t4 =>
 uS 16 t2 fun t10 =>
 (G zbJ [t10]).bind fun t11 =>
 uL (Ax.un .not t11) fun t12 =>
 uG t12 false (M.pure t1) fun t14 =>
 uG t12 false (G zcv [t14]) fun t15 =>
 uH t12 false (Ax.un .not t15) fun t16 =>
 uL (Ax.pick t12 (V.bool true) t16) fun t17 =>
 M.ite t17
 (uS 16 t2 fun t18 =>
 uT 16 t4 t18 fun _ =>
 uS 16 t4 fun r0 =>
 M.pure (.ret [r0,(uc 0),(uc 1)]))
 (uS 16 t2 fun t20 =>
 (G zb0 [t20,t1]).bind fun t22 =>
 uE 0 t22 fun t23 =>
 uE 1 t22 fun t24 =>
 M.ite t24
 (uS 16 t2 fun t26 =>
 uT 16 t4 t26 fun _ =>
 uS 16 t4 fun r0 =>
 M.pure (.ret [r0,(uc 0),(uc 7)]))
 (uF 0 t2 fun t27 =>
 uL (zbA (.arr 8) 1 t27 none none none) fun t28 =>
 (G za3 [t28,(V.bool false)]).bind fun t29 =>
 uB .lss t29 (uc 0) fun t31 =>
 M.ite t31
 (uS 16 t2 fun t32 =>
 uT 16 t4 t32 fun _ =>
 uS 16 t4 fun r0 =>
 M.pure (.ret [r0,(uc 0),(uc 5)]))
 (uF 0 t2 fun t36 =>
 uI (some 8) 1 t36 t29 fun t37 =>
 (zdf 1 t37 (V.bool true)).bind fun _ =>
 uF 8 t2 fun t38 =>
 uI (some 8) 1 t38 t29 fun t39 =>
 uT 1 t39 t1 fun _ =>
 uS 16 t2 fun t40 =>
 uT 16 t4 t40 fun _ =>
 uS 16 t4 fun r0 =>
 M.pure (.ret [r0,t29,(uc 0)]))))
theorem zkd {t0 t1:V}:OkT zdn [t0,t1] (zhx (sem T) t0 t1):=okT (by kernel_rfl) (by kernel_rfl) (by kernel_rfl)
def zbn (G:Sem') (t7 t1 t0:V) (L:List V):M Res :=
 uB .lss (ug L 0) t7 fun t9 =>
 M.ite t9
 (M.blk 1 (
 uIM none 1 t0 (ug L 0) fun t15 =>
 uL (eqr .bool false t1 t15) fun t16 =>
 M.ite t16
 (M.pure (.ret [(ug L 0)]))
 (M.pure (.nrm []))) fun _ =>
 uB .add (ug L 0) (uc 1) fun t18 =>
 M.pure (.nrm [t18]))
 (M.pure (.ex 0 []))
def zcn (G:Sem') (t0 t1:V):M Res :=
 uL (vlen t0) fun t7 =>
 M.blk 0 (
 M.iter (zbn G t7 t1 t0) [(uc 0)]) fun _ =>
 M.pure (.ret [(uc (-1))])
theorem zdZ {t0 t1:V}:OkT za3 [t0,t1] (zcn (sem T) t0 t1):=okT (by kernel_rfl) (by kernel_rfl) (by kernel_rfl)
def zhD (G:Sem') (t0 t1:V):M Res :=
 uO zar t0 fun t2 =>
 uO zar (V.agg [(uc 0),(V.bool false),(uc 0),(uc 0),(uc 0),(uc 0)]) fun t4 =>
 M.blk 0 (
 uS 6 t2 fun t7 =>
 (G zcz [t7]).bind fun t8 =>
 uL (Ax.un .not t8) fun t9 =>
 uG t9 false (M.pure t1) fun t11 =>
 uG t9 false (G zdp [t11]) fun t12 =>
 uH t9 false (Ax.un .not t12) fun t13 =>
 uL (Ax.pick t9 (V.bool true) t13) fun t14 =>
 M.ite t14
 (uS 6 t2 fun t15 =>
 uT 6 t4 t15 fun _ =>
 uS 6 t4 fun r0 =>
 M.pure (.ret [r0,(uc 1)]))
 (uFM 1 t2 fun t18 =>
 uL (Ax.un .not t18) fun t19 =>
 M.ite t19
 (uS 6 t2 fun t20 =>
 uT 6 t4 t20 fun _ =>
 uS 6 t4 fun r0 =>
 M.pure (.ret [r0,(uc 0)]))
 (uFM 3 t2 fun t23 =>
 uB .shr t23 t1 fun t25 =>
 uB .and t25 (uc 1) fun t26 =>
 uB .eql t26 (uc 1) fun t27 =>
 M.ite t27
 (uS 6 t2 fun t28 =>
 uT 6 t4 t28 fun _ =>
 uS 6 t4 fun r0 =>
 M.pure (.ret [r0,(uc 7)]))
 (M.pure (.nrm []))))) fun _ =>
 uFM 3 t2 fun t30 =>
 uB .shl (uc 1) t1 fun t32 =>
 uB .or t30 t32 fun t33 =>
 uF 3 t2 fun t34 =>
 uT 1 t34 t33 fun _ =>
 uS 6 t2 fun t35 =>
 uT 6 t4 t35 fun _ =>
 uS 6 t4 fun r0 =>
 M.pure (.ret [r0,(uc 0)])
theorem zkj {t0 t1:V}:OkT zdq [t0,t1] (zhD (sem T) t0 t1):=okT (by kernel_rfl) (by kernel_rfl) (by kernel_rfl)
def zhC (G:Sem') (t0:V):M Res :=
 uB .geq t0 (uc 0) fun t4 =>
 uG t4 true (M.pure t0) fun t6 =>
 uH t4 true (Ax.bin .lss t6 (uc 8)) fun t7 =>
 uL (Ax.pick t4 t7 (V.bool false)) fun t8 =>
 M.pure (.ret [t8])
theorem zki {t0:V}:OkT zdp [t0] (zhC (sem T) t0):=okT (by kernel_rfl) (by kernel_rfl) (by kernel_rfl)
def zgF (G:Sem') (t0:V):M Res :=
 uNF 0 t0 fun t5 =>
 uF 16 t5 fun t6 =>
 uS 6 t6 fun t7 =>
 (G zdB [t7]).bind fun t8 =>
 M.pure (.ret [t8])
theorem zi8 {t0:V}:OkT zcV [t0] (zgF (sem T) t0):=okT (by kernel_rfl) (by kernel_rfl) (by kernel_rfl)
def zfI (G:Sem') (t0:V):M Res :=
 uO zar t0 fun t1 =>
 uFM 1 t1 fun t4 =>
 M.ite t4
 (uFM 2 t1 fun t6 =>
 M.pure (.ret [t6]))
 (uFM 0 t1 fun t8 =>
 M.pure (.ret [t8]))
theorem zik {t0:V}:OkT zdB [t0] (zfI (sem T) t0):=okT (by kernel_rfl) (by kernel_rfl) (by kernel_rfl)
def zcQ (G:Sem') (t15 t2 t0 t1 t7:V) (L:List V):M Res :=
 uB .lss (ug L 0) (uc 8) fun t17 =>
 M.ite t17
 (M.blk 1 (
 uL (Ax.index 8 1 none t15 (ug L 0)) fun t19 =>
 uG t19 true (M.pure (ug L 0)) fun t22 =>
 uG t19 true (M.pure t2) fun t23 =>
 uH t19 true (Ax.bin .neq t22 t23) fun t24 =>
 uL (Ax.pick t19 t24 (V.bool false)) fun t25 =>
 M.join (M.ite t25
 (uNF 0 t1 fun t30 =>
 uF 0 t30 fun t31 =>
 uF 8 t31 fun t32 =>
 uIM (some 8) 1 t32 (ug L 0) fun t34 =>
 uS 7 t7 fun t35 =>
 (G zbe [t0,t34,t35]).bind fun t36 =>
 M.pure (.nrm []))
 (M.pure (.nrm []))) fun _ =>
 M.pure (.nrm [])) fun _ =>
 uB .add (ug L 0) (uc 1) fun t37 =>
 M.pure (.nrm [t37]))
 (M.pure (.ex 0 []))
def zfo (G:Sem') (t0 t1 t2 t3:V):M Res :=
 uO zac t3 fun t7 =>
 uNF 0 t1 fun t12 =>
 uF 0 t12 fun t13 =>
 uF 0 t13 fun t14 =>
 uS 8 t14 fun t15 =>
 M.blk 0 (
 M.iter (zcQ G t15 t2 t0 t1 t7) [(uc 0)]) fun _ =>
 M.pure (.ret [])
theorem zhJ {t0 t1 t2 t3:V}:OkT zcc [t0,t1,t2,t3] (zfo (sem T) t0 t1 t2 t3):=okT (by kernel_rfl) (by kernel_rfl) (by kernel_rfl)
end Go.Ax
/- FnS8 -/
namespace Go.Ax
open Go.Proofs
def zcj (G:Sem') (t10 t0 t1 t6:V) (L:List V):M Res :=
 uB .lss (ug L 1) t10 fun t12 =>
 M.ite t12
 (M.blk 1 (
 uNF 1470 t0 fun t17 =>
 uIM (some 64) 1 t17 t1 fun t19 =>
 (G zaZ [t19]).bind fun t20 =>
 uE 0 t20 fun t21 =>
 uE 1 t20 fun t22 =>
 uO zbv (V.agg [(uc 0),(uc 0),V.nils]) fun t8 =>
 uT 3 t8 t21 fun _ =>
 uL (Ax.un .not t22) fun t24 =>
 M.ite t24
 (M.pure (.ex 0 [(ug L 0)]))
 (uS 3 t8 fun t26 =>
 (zcM zbv 1 [(uc 0),(uc 0),V.nils] [(0,3,t26)]).bind fun t27 =>
 (zaC zbv 3 40 (ug L 0) t27).bind fun t28 =>
 M.pure (.nrm [t28]))) fun L0 =>
 uB .add (ug L 1) (uc 1) fun t29 =>
 M.pure (.nrm [(ug L0 0),t29]))
 (M.pure (.ex 0 [(ug L 0)]))
def zep (G:Sem') (t0 t1 t2:V):M Res :=
 M.blk 0 (
 M.iter (zcj G t2 t0 t1 V.nils) [V.nils,(uc 0)]) fun L1 =>
 M.pure (.ret [(ug L1 0)])
theorem zgc {t0 t1 t2:V}:OkT zbq [t0,t1,t2] (zep (sem T) t0 t1 t2):=okT (by kernel_rfl) (by kernel_rfl) (by kernel_rfl)
def zcb (G:Sem') (t0:V):M Res :=
 uO zbv (V.agg [(uc 0),(uc 0),V.nils]) fun t2 =>
 uO zbv (V.agg [(uc 0),(uc 0),V.nils]) fun t4 =>
 uNFM 1 t0 fun t9 =>
 uL (vlen t9) fun t10 =>
 uB .eql t10 (uc 0) fun t11 =>
 M.ite t11
 (uS 3 t4 fun t12 =>
 uT 3 t2 t12 fun _ =>
 uS 3 t2 fun r0 =>
 M.pure (.ret [r0,(V.bool false)]))
 (uNFM 1 t0 fun t16 =>
 uI none 3 t16 (uc 0) fun t17 =>
 uS 3 t17 fun t18 =>
 uO zbv (V.agg [(uc 0),(uc 0),V.nils]) fun t5 =>
 uT 3 t5 t18 fun _ =>
 uNFM 1 t0 fun t23 =>
 uL (zbA .sl 3 t23 (some (uc 1)) none none) fun t24 =>
 uNF 1 t0 fun t26 =>
 uT 1 t26 t24 fun _ =>
 uS 3 t5 fun t27 =>
 uT 3 t2 t27 fun _ =>
 uS 3 t2 fun r0 =>
 M.pure (.ret [r0,(V.bool true)]))
theorem zdJ {t0:V}:OkT zaZ [t0] (zcb (sem T) t0):=okT (by kernel_rfl) (by kernel_rfl) (by kernel_rfl)
def zes (G:Sem') (t0 t1:V):M Res :=
 uNFM 1534 t0 fun t8 =>
 (G zb4 [t8,t1]).bind fun t10 =>
 M.pure (.ret [t10])
theorem zgf {t0 t1:V}:OkT zbt [t0,t1] (zes (sem T) t0 t1):=okT (by kernel_rfl) (by kernel_rfl) (by kernel_rfl)
def zeT (G:Sem') (t0 t1:V):M Res :=
 uB .lss t1 (uc 0) fun t6 =>
 uG t6 false (M.pure t1) fun t8 =>
 uG t6 false (M.pure t0) fun t9 =>
 uH t6 false (Ax.nilck t9) fun t10 =>
 uH t6 false (Ax.faddr 0 t10) fun t11 =>
 uG t6 false (zam none t11) fun t12 =>
 uH t6 false (vlen t12) fun t13 =>
 uH t6 false (Ax.bin .geq t8 t13) fun t14 =>
 uL (Ax.pick t6 (V.bool true) t14) fun t15 =>
 M.ite t15
 (M.pure (.ret [(uc 0)]))
 (uNFM 0 t0 fun t19 =>
 uI none 1 t19 t1 fun t21 =>
 (G zbw [t21]).bind fun t22 =>
 M.pure (.ret [t22]))
theorem zgV {t0 t1:V}:OkT zb4 [t0,t1] (zeT (sem T) t0 t1):=okT (by kernel_rfl) (by kernel_rfl) (by kernel_rfl)
def zcm (G:Sem') (t0:V):M Res :=
 uNF 0 t0 fun t5 =>
 (zdk .i64 t5).bind fun t6 =>
 M.pure (.ret [t6])
theorem zdY {t0:V}:OkT zbw [t0] (zcm (sem T) t0):=okT (by kernel_rfl) (by kernel_rfl) (by kernel_rfl)
def zc5 (G:Sem') (t0:V):M Res :=
 uO zab t0 fun t1 =>
 uS 7 t1 fun t6 =>
 (G zbh [t6]).bind fun t7 =>
 uE 0 t7 fun t8 =>
 uE 1 t7 fun t9 =>
 M.pure (.ret [t8])
theorem zeX {t0:V}:OkT zaJ [t0] (zc5 (sem T) t0):=okT (by kernel_rfl) (by kernel_rfl) (by kernel_rfl)
def zcI (G:Sem') (t0:V):M Res :=
 uO zab t0 fun t1 =>
 uS 7 t1 fun t5 =>
 (G zal [t5]).bind fun t6 =>
 uL (Ax.un .not t6) fun t7 =>
 M.ite t7
 (M.pure (.ret [V.nils,(uc 1)]))
 (uFM 0 t1 fun t9 =>
 uL (Ax.cint .u8 t9) fun t10 =>
 uFM 1 t1 fun t12 =>
 uL (Ax.cint .u8 t12) fun t13 =>
 uFM 2 t1 fun t15 =>
 uL (Ax.cint .u8 t15) fun t16 =>
 (zcM zaw 3 [(ub 0)] [(0,1,t10),(1,1,t13),(2,1,t16)]).bind fun t17 =>
 uFM 3 t1 fun t20 =>
 uL (Ax.cint .u64 t20) fun t21 =>
 (G zaS [t17,t21,(uc 2)]).bind fun t22 =>
 uFM 4 t1 fun t25 =>
 uL (Ax.cint .u64 t25) fun t26 =>
 (G zaS [t22,t26,(uc 2)]).bind fun t27 =>
 uFM 5 t1 fun t30 =>
 uL (Ax.cint .u64 t30) fun t31 =>
 (G zaS [t27,t31,(uc 2)]).bind fun t32 =>
 uFM 6 t1 fun t35 =>
 uL (vlen t35) fun t36 =>
 uL (Ax.cint .u64 t36) fun t37 =>
 uF 6 t1 fun t39 =>
 uM t39 fun t40 =>
 M.getH.bind fun h0 =>
 (G zaS [t32,t37,(uc 2)]).bind fun t38 =>
 M.getH.bind fun h0' =>
 uU t39 h0 h0' fun _ =>
 (zaC zaw 1 1 t38 t40).bind fun t41 =>
 M.pure (.ret [t41,(uc 0)]))
theorem zez {t0:V}:OkT zbh [t0] (zcI (sem T) t0):=okT (by kernel_rfl) (by kernel_rfl) (by kernel_rfl)
def zbb (G:Sem') (t0:V):M Res :=
 uO zab t0 fun t1 =>
 uFM 0 t1 fun t6 =>
 (G zaA [t6]).bind fun t7 =>
 uB .eql t7 (V.str ⟨#[]⟩) fun t9 =>
 uH t9 false (Ax.faddr 1 t1) fun t11 =>
 uG t9 false (zam none t11) fun t12 =>
 uG t9 false (G zax [t12,(uc 0),(uc 3)]) fun t13 =>
 uH t9 false (Ax.un .not t13) fun t14 =>
 uL (Ax.pick t9 (V.bool true) t14) fun t15 =>
 uH t15 false (Ax.faddr 2 t1) fun t17 =>
 uG t15 false (zam none t17) fun t18 =>
 uG t15 false (G zax [t18,(uc 0),(uc 7)]) fun t19 =>
 uH t15 false (Ax.un .not t19) fun t20 =>
 uL (Ax.pick t15 (V.bool true) t20) fun t21 =>
 uH t21 false (Ax.faddr 3 t1) fun t23 =>
 uG t21 false (zam none t23) fun t24 =>
 uG t21 false (G zax [t24,(uc 0),(uc 65535)]) fun t25 =>
 uH t21 false (Ax.un .not t25) fun t26 =>
 uL (Ax.pick t21 (V.bool true) t26) fun t27 =>
 uH t27 false (Ax.faddr 4 t1) fun t29 =>
 uG t27 false (zam none t29) fun t30 =>
 uG t27 false (G zax [t30,(uc 0),(uc 65535)]) fun t31 =>
 uH t27 false (Ax.un .not t31) fun t32 =>
 uL (Ax.pick t27 (V.bool true) t32) fun t33 =>
 uH t33 false (Ax.faddr 5 t1) fun t35 =>
 uG t33 false (zam none t35) fun t36 =>
 uG t33 false (G zax [t36,(uc 0),(uc 65535)]) fun t37 =>
 uH t33 false (Ax.un .not t37) fun t38 =>
 uL (Ax.pick t33 (V.bool true) t38) fun t39 =>
 uH t39 false (Ax.faddr 6 t1) fun t41 =>
 uG t39 false (zam none t41) fun t42 =>
 uH t39 false (vlen t42) fun t43 =>
 uH t39 false (Ax.bin .gtr t43 (uc 200)) fun t44 =>
 uL (Ax.pick t39 (V.bool true) t44) fun t45 =>
 M.ite t45
 (M.pure (.ret [(V.bool false)]))
 ((G zav [t7,(ub 114)]).bind fun t47 =>
 uL (Ax.un .not t47) fun t48 =>
 uH t48 true (Ax.faddr 1 t1) fun t50 =>
 uG t48 true (zam none t50) fun t51 =>
 uH t48 true (Ax.bin .neq t51 (uc 0)) fun t52 =>
 uL (Ax.pick t48 t52 (V.bool false)) fun t53 =>
 uG t53 false (M.pure t7) fun t55 =>
 uG t53 false (G zav [t55,(ub 115)]) fun t56 =>
 uH t53 false (Ax.un .not t56) fun t57 =>
 uG t53 false (M.pure t57) fun t58 =>
 uH t58 true (Ax.faddr 2 t1) fun t59 =>
 uG t58 true (zam none t59) fun t60 =>
 uH t58 true (Ax.bin .neq t60 (uc 0)) fun t61 =>
 uH t53 false (Ax.pick t58 t61 (V.bool false)) fun t62 =>
 uL (Ax.pick t53 (V.bool true) t62) fun t63 =>
 uG t63 false (M.pure t7) fun t65 =>
 uG t63 false (G zav [t65,(ub 101)]) fun t66 =>
 uH t63 false (Ax.un .not t66) fun t67 =>
 uG t63 false (M.pure t67) fun t68 =>
 uH t68 true (Ax.faddr 3 t1) fun t69 =>
 uG t68 true (zam none t69) fun t70 =>
 uH t68 true (Ax.bin .neq t70 (uc 0)) fun t71 =>
 uH t63 false (Ax.pick t68 t71 (V.bool false)) fun t72 =>
 uL (Ax.pick t63 (V.bool true) t72) fun t73 =>
 uG t73 false (M.pure t7) fun t75 =>
 uG t73 false (G zav [t75,(ub 110)]) fun t76 =>
 uH t73 false (Ax.un .not t76) fun t77 =>
 uG t73 false (M.pure t77) fun t78 =>
 uH t78 true (Ax.faddr 4 t1) fun t79 =>
 uG t78 true (zam none t79) fun t80 =>
 uH t78 true (Ax.bin .neq t80 (uc 0)) fun t81 =>
 uH t73 false (Ax.pick t78 t81 (V.bool false)) fun t82 =>
 uL (Ax.pick t73 (V.bool true) t82) fun t83 =>
 uG t83 false (M.pure t7) fun t85 =>
 uG t83 false (G zav [t85,(ub 109)]) fun t86 =>
 uH t83 false (Ax.un .not t86) fun t87 =>
 uG t83 false (M.pure t87) fun t88 =>
 uH t88 true (Ax.faddr 5 t1) fun t89 =>
 uG t88 true (zam none t89) fun t90 =>
 uH t88 true (Ax.bin .neq t90 (uc 0)) fun t91 =>
 uH t83 false (Ax.pick t88 t91 (V.bool false)) fun t92 =>
 uL (Ax.pick t83 (V.bool true) t92) fun t93 =>
 uG t93 false (M.pure t7) fun t95 =>
 uG t93 false (G zav [t95,(ub 98)]) fun t96 =>
 uH t93 false (Ax.un .not t96) fun t97 =>
 uG t93 false (M.pure t97) fun t98 =>
 uH t98 true (Ax.faddr 6 t1) fun t99 =>
 uG t98 true (zam none t99) fun t100 =>
 uH t98 true (vlen t100) fun t101 =>
 uH t98 true (Ax.bin .gtr t101 (uc 0)) fun t102 =>
 uH t93 false (Ax.pick t98 t102 (V.bool false)) fun t103 =>
 uL (Ax.pick t93 (V.bool true) t103) fun t104 =>
 M.ite t104
 (M.pure (.ret [(V.bool false)]))
 (uFM 4 t1 fun t106 =>
 uB .lss t106 (uc 256) fun t107 =>
 M.join (M.ite t107
 (uFM 4 t1 fun t109 =>
 uFM 2 t1 fun t111 =>
 uL (Ax.cint .u64 t111) fun t112 =>
 uB .shr t109 t112 fun t113 =>
 uB .and t113 (uc 1) fun t114 =>
 uB .eql t114 (uc 1) fun t115 =>
 M.pure (.nrm [t115]))
 (M.pure (.nrm [(V.bool false)]))) fun L0 =>
 uFM 0 t1 fun t117 =>
 M.blk 0 (
 uB .eql t117 (uc 4) fun t119 =>
 M.ite t119
 (uFM 4 t1 fun t121 =>
 uB .lss t121 (uc 3) fun t122 =>
 uH t122 true (Ax.faddr 6 t1) fun t124 =>
 uG t122 true (zam none t124) fun t125 =>
 uH t122 true (vlen t125) fun t126 =>
 uH t122 true (Ax.bin .eql t126 (uc 4)) fun t127 =>
 uL (Ax.pick t122 t127 (V.bool false)) fun t128 =>
 M.pure (.ret [t128]))
 (uB .eql t117 (uc 5) fun t130 =>
 M.ite t130
 (uFM 4 t1 fun t132 =>
 uB .lss t132 (uc 4) fun t133 =>
 uH t133 true (Ax.faddr 5 t1) fun t135 =>
 uG t133 true (zam none t135) fun t136 =>
 uH t133 true (Ax.bin .lss t136 (uc 8)) fun t137 =>
 uL (Ax.pick t133 t137 (V.bool false)) fun t138 =>
 M.pure (.ret [t138]))
 (uB .eql t117 (uc 7) fun t140 =>
 M.join (M.ite t140
 (M.pure (.nrm [t140]))
 (uB .eql t117 (uc 21) fun t141 =>
 M.pure (.nrm [t141]))) fun L1 =>
 M.ite (ug L1 0)
 (uFM 4 t1 fun t143 =>
 uB .lss t143 (uc 32) fun t144 =>
 uH t144 true (Ax.faddr 6 t1) fun t146 =>
 uG t144 true (zam none t146) fun t147 =>
 uH t144 true (vlen t147) fun t148 =>
 uH t144 true (Ax.bin .gtr t148 (uc 0)) fun t149 =>
 uL (Ax.pick t144 t149 (V.bool false)) fun t150 =>
 M.pure (.ret [t150]))
 (uB .eql t117 (uc 17) fun t152 =>
 M.ite t152
 (uFM 4 t1 fun t154 =>
 uB .lss t154 (uc 256) fun t155 =>
 uG t155 true (M.pure (ug L0 0)) fun t157 =>
 uL (Ax.pick t155 t157 (V.bool false)) fun t158 =>
 uH t158 true (Ax.faddr 5 t1) fun t160 =>
 uG t158 true (zam none t160) fun t161 =>
 uH t158 true (Ax.faddr 3 t1) fun t162 =>
 uG t158 true (zam none t162) fun t163 =>
 uH t158 true (Ax.bin .geq t161 t163) fun t164 =>
 uL (Ax.pick t158 t164 (V.bool false)) fun t165 =>
 uG t165 true (zam (some 7) t1) fun t167 =>
 uG t165 true (G zbg [t167]) fun t168 =>
 uL (Ax.pick t165 t168 (V.bool false)) fun t169 =>
 M.pure (.ret [t169]))
 (uB .eql t117 (uc 18) fun t171 =>
 M.ite t171
 (uFM 4 t1 fun t173 =>
 (G zax [t173,(uc 1),(uc 13)]).bind fun t174 =>
 uH t174 true (Ax.faddr 5 t1) fun t176 =>
 uG t174 true (zam none t176) fun t177 =>
 uH t174 true (Ax.bin .leq t177 (uc 9)) fun t178 =>
 uL (Ax.pick t174 t178 (V.bool false)) fun t179 =>
 M.pure (.ret [t179]))
 (uB .eql t117 (uc 19) fun t181 =>
 M.ite t181
 (uFM 4 t1 fun t183 =>
 uB .lss t183 (uc 256) fun t184 =>
 uG t184 true (M.pure (ug L0 0)) fun t186 =>
 uL (Ax.pick t184 t186 (V.bool false)) fun t187 =>
 uH t187 true (Ax.faddr 5 t1) fun t189 =>
 uG t187 true (zam none t189) fun t190 =>
 uH t187 true (Ax.bin .leq t190 (uc 63)) fun t191 =>
 uL (Ax.pick t187 t191 (V.bool false)) fun t192 =>
 M.pure (.ret [t192]))
 (uB .eql t117 (uc 20) fun t194 =>
 M.ite t194
 (uFM 4 t1 fun t196 =>
 uB .lss t196 (uc 256) fun t197 =>
 uG t197 true (M.pure (ug L0 0)) fun t199 =>
 uH t197 true (Ax.un .not t199) fun t200 =>
 uL (Ax.pick t197 t200 (V.bool false)) fun t201 =>
 M.pure (.ret [t201]))
 (uB .eql t117 (uc 24) fun t203 =>
 M.ite t203
 (uFM 6 t1 fun t205 =>
 uL (vlen t205) fun t206 =>
 uB .eql t206 (uc 4) fun t207 =>
 M.pure (.ret [t207]))
 (M.pure (.nrm [])))))))))) fun _ =>
 M.pure (.ret [(V.bool true)])))
theorem zbl {t0:V}:OkT zal [t0] (zbb (sem T) t0):=okT (by kernel_rfl) (by kernel_rfl) (by kernel_rfl)
def zaW (G:Sem') (t0:V):M Res :=
 M.blk 0 (
 uB .eql t0 (uc 1) fun t5 =>
 M.ite t5
 (M.pure (.ret [(V.str ⟨#[114]⟩)]))
 (uB .eql t0 (uc 2) fun t7 =>
 M.join (M.ite t7
 (M.pure (.nrm [t7]))
 (uB .eql t0 (uc 9) fun t8 =>
 M.join (M.ite t8
 (M.pure (.nrm [t8]))
 (uB .eql t0 (uc 23) fun t9 =>
 M.pure (.nrm [t9]))) fun L0 =>
 M.pure (.nrm [(ug L0 0)]))) fun L1 =>
 M.ite (ug L1 0)
 (M.pure (.ret [(V.str ⟨#[45]⟩)]))
 (uB .eql t0 (uc 3) fun t11 =>
 M.join (M.ite t11
 (M.pure (.nrm [t11]))
 (uB .eql t0 (uc 6) fun t12 =>
 M.pure (.nrm [t12]))) fun L2 =>
 M.ite (ug L2 0)
 (M.pure (.ret [(V.str ⟨#[115]⟩)]))
 (uB .eql t0 (uc 4) fun t14 =>
 M.ite t14
 (M.pure (.ret [(V.str ⟨#[110,109,98]⟩)]))
 (uB .eql t0 (uc 5) fun t16 =>
 M.ite t16
 (M.pure (.ret [(V.str ⟨#[115,110,109]⟩)]))
 (uB .eql t0 (uc 7) fun t18 =>
 M.join (M.ite t18
 (M.pure (.nrm [t18]))
 (uB .eql t0 (uc 21) fun t19 =>
 M.pure (.nrm [t19]))) fun L3 =>
 M.ite (ug L3 0)
 (M.pure (.ret [(V.str ⟨#[115,101,110,98]⟩)]))
 (uB .eql t0 (uc 8) fun t21 =>
 M.join (M.ite t21
 (M.pure (.nrm [t21]))
 (uB .eql t0 (uc 22) fun t22 =>
 M.pure (.nrm [t22]))) fun L4 =>
 M.ite (ug L4 0)
 (M.pure (.ret [(V.str ⟨#[101]⟩)]))
 (uB .eql t0 (uc 17) fun t24 =>
 M.ite t24
 (M.pure (.ret [(V.str ⟨#[114,115,101,110,109,98]⟩)]))
 (uB .eql t0 (uc 18) fun t26 =>
 M.ite t26
 (M.pure (.ret [(V.str ⟨#[110,109]⟩)]))
 (uB .eql t0 (uc 19) fun t28 =>
 M.ite t28
 (M.pure (.ret [(V.str ⟨#[115,101,110,109]⟩)]))
 (uB .eql t0 (uc 20) fun t30 =>
 M.ite t30
 (M.pure (.ret [(V.str ⟨#[115,101,110]⟩)]))
 (uB .eql t0 (uc 24) fun t32 =>
 M.ite t32
 (M.pure (.ret [(V.str ⟨#[115,98]⟩)]))
 (M.pure (.nrm [])))))))))))))) fun _ =>
 M.pure (.ret [(V.str ⟨#[]⟩)])
theorem zbc {t0:V}:OkT zaA [t0] (zaW (sem T) t0):=okT (by kernel_rfl) (by kernel_rfl) (by kernel_rfl)
def zdH (G:Sem') (t0 t1 t2:V):M Res :=
 uB .geq t0 t1 fun t9 =>
 uG t9 true (M.pure t0) fun t11 =>
 uG t9 true (M.pure t2) fun t12 =>
 uH t9 true (Ax.bin .leq t11 t12) fun t13 =>
 uL (Ax.pick t9 t13 (V.bool false)) fun t14 =>
 M.pure (.ret [t14])
theorem zfA {t0 t1 t2:V}:OkT zax [t0,t1,t2] (zdH (sem T) t0 t1 t2):=okT (by kernel_rfl) (by kernel_rfl) (by kernel_rfl)
def zbP (G:Sem') (t0 t1:V) (L:List V):M Res :=
 uL (Ax.slen t0) fun t8 =>
 uB .lss (ug L 0) t8 fun t9 =>
 M.ite t9
 (M.blk 1 (
 uL (Ax.sindex t0 (ug L 0)) fun t14 =>
 uB .eql t14 t1 fun t16 =>
 M.ite t16
 (M.pure (.ret [(V.bool true)]))
 (M.pure (.nrm []))) fun _ =>
 uB .add (ug L 0) (uc 1) fun t11 =>
 M.pure (.nrm [t11]))
 (M.pure (.ex 0 []))
def zdi (G:Sem') (t0 t1:V):M Res :=
 M.blk 0 (
 M.iter (zbP G t0 t1) [(uc 0)]) fun _ =>
 M.pure (.ret [(V.bool false)])
theorem ze9 {t0 t1:V}:OkT zav [t0,t1] (zdi (sem T) t0 t1):=okT (by kernel_rfl) (by kernel_rfl) (by kernel_rfl)
def zbH (G:Sem') (t1:V) (L:List V):M Res :=
 uB .lss (ug L 0) (uc 8) fun t10 =>
 M.ite t10
 (M.blk 1 (
 uFM 4 t1 fun t14 =>
 uL (Ax.cint .u64 (ug L 0)) fun t16 =>
 uB .shr t14 t16 fun t17 =>
 uB .and t17 (uc 1) fun t18 =>
 uB .eql t18 (uc 1) fun t19 =>
 uH t19 true (Ax.faddr 6 t1) fun t22 =>
 uG t19 true (zam none t22) fun t23 =>
 uG t19 true (M.pure (ug L 0)) fun t24 =>
 uH t19 true (Ax.iaddr none 1 t23 t24) fun t25 =>
 uG t19 true (zam none t25) fun t26 =>
 uH t19 true (Ax.bin .gtr t26 (ub 63)) fun t27 =>
 uL (Ax.pick t19 t27 (V.bool false)) fun t28 =>
 uG t28 false (M.pure t19) fun t30 =>
 uH t28 false (Ax.un .not t30) fun t31 =>
 uG t28 false (M.pure t31) fun t32 =>
 uH t32 true (Ax.faddr 6 t1) fun t33 =>
 uG t32 true (zam none t33) fun t34 =>
 uG t32 true (M.pure (ug L 0)) fun t35 =>
 uH t32 true (Ax.iaddr none 1 t34 t35) fun t36 =>
 uG t32 true (zam none t36) fun t37 =>
 uH t32 true (Ax.bin .neq t37 (ub 255)) fun t38 =>
 uH t28 false (Ax.pick t32 t38 (V.bool false)) fun t39 =>
 uL (Ax.pick t28 (V.bool true) t39) fun t40 =>
 M.ite t40
 (M.pure (.ret [(V.bool false)]))
 (M.pure (.nrm []))) fun _ =>
 uB .add (ug L 0) (uc 1) fun t12 =>
 M.pure (.nrm [t12]))
 (M.pure (.ex 0 []))
def zcG (G:Sem') (t0:V):M Res :=
 uO zab t0 fun t1 =>
 uFM 6 t1 fun t6 =>
 uL (vlen t6) fun t7 =>
 uB .neq t7 (uc 8) fun t8 =>
 M.ite t8
 (M.pure (.ret [(V.bool false)]))
 (M.blk 0 (
 M.iter (zbH G t1) [(uc 0)]) fun _ =>
 M.pure (.ret [(V.bool true)]))
theorem zex {t0:V}:OkT zbg [t0] (zcG (sem T) t0):=okT (by kernel_rfl) (by kernel_rfl) (by kernel_rfl)
def zch (G:Sem') (t1 t6:V) (L:List V):M Res :=
 uB .geq (ug L 1) (uc 0) fun t15 =>
 M.ite t15
 (M.blk 1 (
 uB .mul (uc 8) (ug L 1) fun t21 =>
 uL (Ax.cint .u64 t21) fun t22 =>
 uB .shr t1 t22 fun t23 =>
 uL (Ax.cint .u8 t23) fun t24 =>
 (zcM zaw 1 [(ub 0)] [(0,1,t24)]).bind fun t25 =>
 (zaC zaw 1 1 (ug L 0) t25).bind fun t26 =>
 M.pure (.nrm [t26])) fun L0 =>
 uB .sub (ug L 1) (uc 1) fun t17 =>
 M.pure (.nrm [(ug L0 0),t17]))
 (M.pure (.ex 0 [(ug L 0)]))
def zen (G:Sem') (t0 t1 t2:V):M Res :=
 (zcM zaw 0 [(ub 0)] []).bind fun t9 =>
 (zaC zaw 1 1 t9 t0).bind fun t11 =>
 uB .sub t2 (uc 1) fun t13 =>
 M.blk 0 (
 M.iter (zch G t1 V.nils) [t11,t13]) fun L1 =>
 M.pure (.ret [(ug L1 0)])
theorem zga {t0 t1 t2:V}:OkT zaS [t0,t1,t2] (zen (sem T) t0 t1 t2):=okT (by kernel_rfl) (by kernel_rfl) (by kernel_rfl)
def zeW (G:Sem') (t0 t1:V):M Res :=
 uO zao (V.agg [(V.bool false),(V.bool false),(V.bool false),(V.bool false),(V.bool false),(V.bool false),(V.bool false),(V.bool false),(uc 0),(uc 0),(uc 0),(uc 0),(uc 0),(uc 0),(uc 0),(uc 0),(uc 0),(V.bool false),(uc 0),(uc 0),(uc 0),(uc 0),(uc 0),(uc 0),(uc 0),(uc 0),(uc 0),(uc 0),(uc 0),(uc 0),(uc 0),(uc 0),(uc 0),(uc 0),(uc 0),(uc 0),(uc 0),(uc 0),(V.bool false)]) fun t4 =>
 uB .lss t1 (uc 0) fun t7 =>
 uG t7 false (M.pure t1) fun t9 =>
 uH t7 false (Ax.bin .geq t9 (uc 4)) fun t10 =>
 uL (Ax.pick t7 (V.bool true) t10) fun t11 =>
 M.ite t11
 (uL (Ax.build [(V.bool false),(V.bool false),(V.bool false),(V.bool false),(V.bool false),(V.bool false),(V.bool false),(V.bool false),(uc 0),(uc 0),(uc 0),(uc 0),(uc 0),(uc 0),(uc 0),(uc 0),(uc 0),(V.bool false),(uc 0),(uc 0),(uc 0),(uc 0),(uc 0),(uc 0),(uc 0),(uc 0),(uc 0),(uc 0),(uc 0),(uc 0),(uc 0),(uc 0),(uc 0),(uc 0),(uc 0),(uc 0),(uc 0),(uc 0),(V.bool false)] []) fun t12 =>
 uT 39 t4 t12 fun _ =>
 uS 39 t4 fun r0 =>
 M.pure (.ret [r0,(V.bool false)]))
 (uNF 0 t0 fun t16 =>
 uI (some 4) 367 t16 t1 fun t17 =>
 uF 0 t17 fun t18 =>
 uS 39 t18 fun t19 =>
 uT 39 t4 t19 fun _ =>
 uS 39 t4 fun r0 =>
 M.pure (.ret [r0,(V.bool true)]))
theorem zgY {t0 t1:V}:OkT zbj [t0,t1] (zeW (sem T) t0 t1):=okT (by kernel_rfl) (by kernel_rfl) (by kernel_rfl)
def zer (G:Sem') (t0 t1:V):M Res :=
 (G zc4 [t1]).bind fun t6 =>
 uL (Ax.un .not t6) fun t7 =>
 M.ite t7
 (M.pure (.ret [(uc 0)]))
 (uNF 1470 t0 fun t11 =>
 uIM (some 64) 1 t11 t1 fun t13 =>
 (G zbx [t13]).bind fun t14 =>
 M.pure (.ret [t14]))
theorem zge {t0 t1:V}:OkT zbs [t0,t1] (zer (sem T) t0 t1):=okT (by kernel_rfl) (by kernel_rfl) (by kernel_rfl)
def zco (G:Sem') (t0:V):M Res :=
 uNFM 1 t0 fun t6 =>
 uL (vlen t6) fun t7 =>
 M.pure (.ret [t7])
theorem zd0 {t0:V}:OkT zbx [t0] (zco (sem T) t0):=okT (by kernel_rfl) (by kernel_rfl) (by kernel_rfl)
def zcJ (G:Sem') (t0 t1 t2:V):M Res :=
 uL (Ax.build [(uc 0),(uc 0),(uc 0),(uc 0),(uc 0),(uc 0),V.nils] [(0,1,(uc 1)),(1,1,t2)]) fun t15 =>
 (G zaJ [t15]).bind fun t16 =>
 uL (Ax.build [(uc 0),(uc 0),(uc 0),V.nils] [(0,1,(uc 2)),(1,1,t1),(3,1,t16)]) fun t17 =>
 (G zaF [t0,t17]).bind fun t18 =>
 uL (Ax.build [(uc 0),(uc 0),(uc 0),V.nils] [(0,1,(uc 5)),(1,1,t1),(2,1,(uc 32))]) fun t22 =>
 (G zaF [t0,t22]).bind fun t23 =>
 uE 0 t23 fun t24 =>
 uE 1 t23 fun t25 =>
 uB .neq t25 (uc 0) fun t27 =>
 uG t27 false (M.pure t24) fun t29 =>
 uH t27 false (vlen t29) fun t30 =>
 uH t27 false (Ax.bin .eql t30 (uc 0)) fun t31 =>
 uL (Ax.pick t27 (V.bool true) t31) fun t32 =>
 M.ite t32
 (M.pure (.ret [(uc 0),(V.bool false)]))
 (uL (vlen t24) fun t36 =>
 uB .sub t36 (uc 1) fun t37 =>
 uI none 3 t24 t37 fun t38 =>
 uFM 2 t38 fun t40 =>
 (G zaG [t40]).bind fun t41 =>
 uE 0 t41 fun t42 =>
 uE 1 t41 fun t43 =>
 uO zab (V.agg [(uc 0),(uc 0),(uc 0),(uc 0),(uc 0),(uc 0),V.nils]) fun t10 =>
 uT 7 t10 t42 fun _ =>
 uFM 2 t10 fun t45 =>
 uB .eql t43 (uc 0) fun t47 =>
 uH t47 true (Ax.faddr 0 t10) fun t49 =>
 uG t47 true (zam none t49) fun t50 =>
 uH t47 true (Ax.bin .eql t50 (uc 17)) fun t51 =>
 uL (Ax.pick t47 t51 (V.bool false)) fun t52 =>
 uH t52 true (Ax.faddr 1 t10) fun t54 =>
 uG t52 true (zam none t54) fun t55 =>
 uG t52 true (M.pure t2) fun t56 =>
 uH t52 true (Ax.bin .eql t55 t56) fun t57 =>
 uL (Ax.pick t52 t57 (V.bool false)) fun t58 =>
 M.pure (.ret [t45,t58]))
theorem zeA {t0 t1 t2:V}:OkT zaT [t0,t1,t2] (zcJ (sem T) t0 t1 t2):=okT (by kernel_rfl) (by kernel_rfl) (by kernel_rfl)
end Go.Ax
/- FnS9 -/
namespace Go.Ax
open Go.Proofs
def zcH (G:Sem') (t0:V):M Res :=
 uO zab (V.agg [(uc 0),(uc 0),(uc 0),(uc 0),(uc 0),(uc 0),V.nils]) fun t2 =>
 uL (vlen t0) fun t7 =>
 uB .lss t7 (uc 11) fun t8 =>
 M.ite t8
 (uL (Ax.build [(uc 0),(uc 0),(uc 0),(uc 0),(uc 0),(uc 0),V.nils] []) fun t9 =>
 uT 7 t2 t9 fun _ =>
 uS 7 t2 fun r0 =>
 M.pure (.ret [r0,(uc 3)]))
 (uI none 1 t0 (uc 0) fun t11 =>
 uM t11 fun t12 =>
 uL (Ax.cint .i64 t12) fun t13 =>
 uI none 1 t0 (uc 1) fun t15 =>
 uM t15 fun t16 =>
 uL (Ax.cint .i64 t16) fun t17 =>
 uI none 1 t0 (uc 2) fun t19 =>
 uM t19 fun t20 =>
 uL (Ax.cint .i64 t20) fun t21 =>
 M.getH.bind fun h0 =>
 (G zau [t0,(uc 3)]).bind fun t23 =>
 M.getH.bind fun h0' =>
 uU t19 h0 h0' fun _ =>
 uU t15 h0 h0' fun _ =>
 uU t11 h0 h0' fun _ =>
 M.getH.bind fun h1 =>
 (G zau [t0,(uc 5)]).bind fun t25 =>
 M.getH.bind fun h1' =>
 uU t19 h1 h1' fun _ =>
 uU t15 h1 h1' fun _ =>
 uU t11 h1 h1' fun _ =>
 M.getH.bind fun h2 =>
 (G zau [t0,(uc 7)]).bind fun t27 =>
 M.getH.bind fun h2' =>
 uU t19 h2 h2' fun _ =>
 uU t15 h2 h2' fun _ =>
 uU t11 h2 h2' fun _ =>
 uL (Ax.build [(uc 0),(uc 0),(uc 0),(uc 0),(uc 0),(uc 0),V.nils] [(0,1,t13),(1,1,t17),(2,1,t21),(3,1,t23),(4,1,t25),(5,1,t27),(6,1,V.nils)]) fun t28 =>
 uO zab (V.agg [(uc 0),(uc 0),(uc 0),(uc 0),(uc 0),(uc 0),V.nils]) fun t4 =>
 uT 7 t4 t28 fun _ =>
 (G zau [t0,(uc 9)]).bind fun t30 =>
 M.blk 0 (
 uB .gtr t30 (uc 200) fun t33 =>
 M.ite t33
 (uL (Ax.build [(uc 0),(uc 0),(uc 0),(uc 0),(uc 0),(uc 0),V.nils] []) fun t34 =>
 uT 7 t2 t34 fun _ =>
 uS 7 t2 fun r0 =>
 M.pure (.ret [r0,(uc 4)]))
 (uL (vlen t0) fun t38 =>
 uB .sub t38 (uc 11) fun t39 =>
 uB .gtr t30 t39 fun t40 =>
 M.ite t40
 (uL (Ax.build [(uc 0),(uc 0),(uc 0),(uc 0),(uc 0),(uc 0),V.nils] []) fun t41 =>
 uT 7 t2 t41 fun _ =>
 uS 7 t2 fun r0 =>
 M.pure (.ret [r0,(uc 3)]))
 (uL (vlen t0) fun t45 =>
 uB .sub t45 (uc 11) fun t46 =>
 uB .lss t30 t46 fun t47 =>
 M.ite t47
 (uL (Ax.build [(uc 0),(uc 0),(uc 0),(uc 0),(uc 0),(uc 0),V.nils] []) fun t48 =>
 uT 7 t2 t48 fun _ =>
 uS 7 t2 fun r0 =>
 M.pure (.ret [r0,(uc 2)]))
 (M.pure (.nrm []))))) fun _ =>
 (zcM zaw 0 [(ub 0)] []).bind fun t49 =>
 uL (zbA .sl 1 t0 (some (uc 11)) none none) fun t51 =>
 (zaC zaw 1 1 t49 t51).bind fun t52 =>
 uF 6 t4 fun t53 =>
 uT 1 t53 t52 fun _ =>
 uS 7 t4 fun t54 =>
 (G zal [t54]).bind fun t55 =>
 uL (Ax.un .not t55) fun t56 =>
 M.ite t56
 (uL (Ax.build [(uc 0),(uc 0),(uc 0),(uc 0),(uc 0),(uc 0),V.nils] []) fun t57 =>
 uT 7 t2 t57 fun _ =>
 uS 7 t2 fun r0 =>
 M.pure (.ret [r0,(uc 2)]))
 (uS 7 t4 fun t58 =>
 uT 7 t2 t58 fun _ =>
 uS 7 t2 fun r0 =>
 M.pure (.ret [r0,(uc 0)])))
theorem zey {t0:V}:OkT zaG [t0] (zcH (sem T) t0):=okT (by kernel_rfl) (by kernel_rfl) (by kernel_rfl)
def zdh (G:Sem') (t0 t1:V):M Res :=
 uIM none 1 t0 t1 fun t8 =>
 uL (Ax.cint .i64 t8) fun t9 =>
 uB .shl t9 (uq 8) fun t10 =>
 uB .add t1 (uc 1) fun t13 =>
 uIM none 1 t0 t13 fun t15 =>
 uL (Ax.cint .i64 t15) fun t16 =>
 uB .or t10 t16 fun t17 =>
 M.pure (.ret [t17])
theorem ze8 {t0 t1:V}:OkT zau [t0,t1] (zdh (sem T) t0 t1):=okT (by kernel_rfl) (by kernel_rfl) (by kernel_rfl)
def zaP (G:Sem') (t9 t7:V) (L:List V):M Res :=
 uL (vlen t7) fun t51 =>
 uB .lss (ug L 1) t51 fun t52 =>
 M.ite t52
 (M.blk 3 (
 (zbd [(0,(ug L 0))] (some (0,false)) (M.pure t7)).bind fun t57 =>
 (zbd [(0,(ug L 0))] (some (0,false)) (M.pure (ug L 1))).bind fun t58 =>
 (zbd [(0,(ug L 0))] (some (0,false)) (M.lift (Ax.iaddr none 1 t57 t58))).bind fun t59 =>
 (zbd [(0,(ug L 0))] (some (0,false)) (zam none t59)).bind fun t60 =>
 (zbd [(0,(ug L 0))] (some (0,false)) (M.pure t9)).bind fun t61 =>
 (zbd [(0,(ug L 0))] (some (0,false)) (M.lift (Ax.bin .eql t60 t61))).bind fun t62 =>
 uL (Ax.pick (ug L 0) (V.bool true) t62) fun t63 =>
 M.pure (.nrm [t63])) fun L0 =>
 uB .add (ug L 1) (uc 1) fun t54 =>
 M.pure (.nrm [(ug L0 0),t54]))
 (M.pure (.ex 2 [(ug L 0)]))
def zaO (G:Sem') (t5 t14 t9 t7:V) (L:List V):M Res :=
 uL (vlen t7) fun t114 =>
 uB .lss (ug L 0) t114 fun t115 =>
 M.ite t115
 (M.blk 5 (
 uIM none 1 t7 (ug L 0) fun t123 =>
 uL (Ax.build [(uc 0),(uc 0),(uc 0),V.nils] [(0,1,(uc 5)),(1,1,t123),(2,1,(uc 32))]) fun t124 =>
 (G zaF [t5,t124]).bind fun t125 =>
 uE 0 t125 fun t126 =>
 uE 1 t125 fun t127 =>
 uL (vlen t126) fun t129 =>
 uB .neq t129 (uc 1) fun t130 =>
 uG t130 false (M.pure t126) fun t132 =>
 uH t130 false (Ax.iaddr none 3 t132 (uc 0)) fun t133 =>
 uH t130 false (Ax.faddr 1 t133) fun t134 =>
 uG t130 false (zam none t134) fun t135 =>
 uH t130 false (Ax.bin .neq t135 (uc 2)) fun t136 =>
 uL (Ax.pick t130 (V.bool true) t136) fun t137 =>
 uG t137 false (M.pure t126) fun t139 =>
 uH t137 false (Ax.iaddr none 3 t139 (uc 0)) fun t140 =>
 uH t137 false (Ax.faddr 0 t140) fun t141 =>
 uG t137 false (zam none t141) fun t142 =>
 uG t137 false (M.pure t7) fun t143 =>
 uG t137 false (M.pure (ug L 0)) fun t144 =>
 uH t137 false (Ax.iaddr none 1 t143 t144) fun t145 =>
 uG t137 false (zam none t145) fun t146 =>
 uH t137 false (Ax.bin .neq t142 t146) fun t147 =>
 uL (Ax.pick t137 (V.bool true) t147) fun t148 =>
 M.ite t148
 (M.pure (.ret [(V.bool false)]))
 (uI none 3 t126 (uc 0) fun t151 =>
 uFM 2 t151 fun t153 =>
 (G zaG [t153]).bind fun t154 =>
 uE 0 t154 fun t155 =>
 uE 1 t154 fun t156 =>
 uO zab (V.agg [(uc 0),(uc 0),(uc 0),(uc 0),(uc 0),(uc 0),V.nils]) fun t21 =>
 uT 7 t21 t155 fun _ =>
 uFM 0 t21 fun t158 =>
 uB .neq t158 (uc 19) fun t159 =>
 uH t159 false (Ax.faddr 2 t21) fun t161 =>
 uG t159 false (zam none t161) fun t162 =>
 uG t159 false (M.pure t14) fun t163 =>
 uH t159 false (Ax.bin .neq t162 t163) fun t164 =>
 uL (Ax.pick t159 (V.bool true) t164) fun t165 =>
 uH t165 false (Ax.faddr 5 t21) fun t167 =>
 uG t165 false (zam none t167) fun t168 =>
 uG t165 false (M.pure t9) fun t169 =>
 uH t165 false (Ax.bin .neq t168 t169) fun t170 =>
 uL (Ax.pick t165 (V.bool true) t170) fun t171 =>
 uH t171 false (Ax.faddr 4 t21) fun t173 =>
 uG t171 false (zam none t173) fun t174 =>
 uG t171 false (M.pure t7) fun t175 =>
 uH t171 false (vlen t175) fun t176 =>
 uH t171 false (Ax.bin .add t176 (uc 1)) fun t177 =>
 uH t171 false (Ax.cint .u64 t177) fun t178 =>
 uH t171 false (Ax.bin .shl (uc 1) t178) fun t179 =>
 uH t171 false (Ax.bin .sub t179 (uc 1)) fun t180 =>
 uH t171 false (Ax.bin .neq t174 t180) fun t181 =>
 uL (Ax.pick t171 (V.bool true) t181) fun t182 =>
 M.ite t182
 (M.pure (.ret [(V.bool false)]))
 (M.pure (.nrm [])))) fun _ =>
 uB .add (ug L 0) (uc 1) fun t117 =>
 M.pure (.nrm [t117]))
 (M.pure (.ex 4 []))
def zaN (G:Sem') (t0 t6 t5:V) (L:List V):M Res :=
 uL (vlen t0) fun t35 =>
 uB .lss (ug L 1) t35 fun t36 =>
 uG t36 true (M.pure (ug L 1)) fun t38 =>
 uH t36 true (Ax.bin .lss t38 (uc 12)) fun t39 =>
 uL (Ax.pick t36 t39 (V.bool false)) fun t40 =>
 M.ite t40
 (M.blk 1 (
 uIM none 1 t0 (ug L 1) fun t46 =>
 uB .rem t46 (ub 64) fun t47 =>
 uL (Ax.cint .i64 t47) fun t48 =>
 M.blk 2 (
 M.iter (zaP G t48 (ug L 0)) [(V.bool false),(uc 0)]) fun L1 =>
 (G zbj [t5,t6]).bind fun t67 =>
 uE 0 t67 fun t68 =>
 uE 1 t67 fun t69 =>
 uO zao (V.agg [(V.bool false),(V.bool false),(V.bool false),(V.bool false),(V.bool false),(V.bool false),(V.bool false),(V.bool false),(uc 0),(uc 0),(uc 0),(uc 0),(uc 0),(uc 0),(uc 0),(uc 0),(uc 0),(V.bool false),(uc 0),(uc 0),(uc 0),(uc 0),(uc 0),(uc 0),(uc 0),(uc 0),(uc 0),(uc 0),(uc 0),(uc 0),(uc 0),(uc 0),(uc 0),(uc 0),(uc 0),(uc 0),(uc 0),(uc 0),(V.bool false)]) fun t12 =>
 uT 39 t12 t68 fun _ =>
 (G zaT [t5,t48,t6]).bind fun t74 =>
 uE 0 t74 fun t75 =>
 uE 1 t74 fun t76 =>
 (G zbj [t5,t6]).bind fun t80 =>
 uE 0 t80 fun t81 =>
 uE 1 t80 fun t82 =>
 uO zao (V.agg [(V.bool false),(V.bool false),(V.bool false),(V.bool false),(V.bool false),(V.bool false),(V.bool false),(V.bool false),(uc 0),(uc 0),(uc 0),(uc 0),(uc 0),(uc 0),(uc 0),(uc 0),(uc 0),(V.bool false),(uc 0),(uc 0),(uc 0),(uc 0),(uc 0),(uc 0),(uc 0),(uc 0),(uc 0),(uc 0),(uc 0),(uc 0),(uc 0),(uc 0),(uc 0),(uc 0),(uc 0),(uc 0),(uc 0),(uc 0),(V.bool false)]) fun t16 =>
 uT 39 t16 t81 fun _ =>
 uL (Ax.un .not (ug L1 0)) fun t85 =>
 uG t85 true (M.pure (ug L 0)) fun t87 =>
 uH t85 true (vlen t87) fun t88 =>
 uH t85 true (Ax.bin .lss t88 (uc 8)) fun t89 =>
 uL (Ax.pick t85 t89 (V.bool false)) fun t90 =>
 uL (eqr .bool true t76 t90) fun t91 =>
 uG t91 false (M.pure t76) fun t93 =>
 uG t91 false (M.pure t93) fun t94 =>
 uG t94 true (M.pure t75) fun t95 =>
 uG t94 true (M.pure (ug L 0)) fun t96 =>
 uH t94 true (vlen t96) fun t97 =>
 uH t94 true (Ax.bin .neq t95 t97) fun t98 =>
 uH t91 false (Ax.pick t94 t98 (V.bool false)) fun t99 =>
 uL (Ax.pick t91 (V.bool true) t99) fun t100 =>
 uG t100 false (M.pure t76) fun t102 =>
 uH t100 false (Ax.un .not t102) fun t103 =>
 uG t100 false (M.pure t103) fun t104 =>
 uG t104 true (zam (some 39) t16) fun t105 =>
 uG t104 true (zam (some 39) t12) fun t106 =>
 uH t104 true (eqr (.st [.bool,.bool,.bool,.bool,.bool,.bool,.bool,.bool,.int,.int,.int,.int,.int,.int,.int,.int,.int,.bool,.int,.int,.int,.int,.int,.int,.int,.int,.int,.int,.int,.int,.int,.int,.int,.int,.int,.int,.int,.int,.bool]) true t105 t106) fun t107 =>
 uH t100 false (Ax.pick t104 t107 (V.bool false)) fun t108 =>
 uL (Ax.pick t100 (V.bool true) t108) fun t109 =>
 M.ite t109
 (M.pure (.ret [(V.bool false)]))
 (uL (Ax.un .not t76) fun t111 =>
 M.ite t111
 (M.pure (.ex 1 [(ug L 0)]))
 (M.blk 4 (
 M.iter (zaO G t5 t75 t48 (ug L 0)) [(uc 0)]) fun _ =>
 (zcM ze4 1 [(uc 0)] [(0,1,t48)]).bind fun t185 =>
 (zaC ze4 1 8 (ug L 0) t185).bind fun t186 =>
 M.pure (.nrm [t186])))) fun L4 =>
 uB .add (ug L 1) (uc 1) fun t42 =>
 M.pure (.nrm [(ug L4 0),t42]))
 (M.pure (.ex 0 []))
def zb7 (G:Sem') (t0 t1:V):M Res :=
 (G zdF []).bind fun t23 =>
 (G zaU []).bind fun t24 =>
 uL (Ax.un .not t24) fun t25 =>
 uG t25 false (M.pure t23) fun t27 =>
 uH t25 false (eqr .ptr false t27 V.nilp) fun t28 =>
 uL (Ax.pick t25 (V.bool true) t28) fun t29 =>
 M.ite t29
 (M.pure (.ret [(V.bool false)]))
 (uB .rem t1 (ub 4) fun t31 =>
 uL (Ax.cint .i64 t31) fun t32 =>
 M.blk 0 (
 M.iter (zaN G t0 t32 t23) [V.nils,(uc 0)]) fun _ =>
 M.pure (.ret [(V.bool true)]))
theorem zdw {t0 t1:V}:OkT zaV [t0,t1] (zb7 (sem T) t0 t1):=okT (by kernel_rfl) (by kernel_rfl) (by kernel_rfl)
end Go.Ax
/- FnS10 -/
namespace Go.Ax
open Go.Proofs
end Go.Ax
/- Dk1 -/
namespace Go.Ax.SU
open Go.Ax
structure AtS (S:List Nat) (H H':Heap):Prop where
 next:H.next ≤ H'.next
 same:∀ i,i < H.next → i ∉ S → H'.get i = H.get i
theorem AtS.refl (S:List Nat) (H:Heap):AtS S H H:=⟨Nat.le_refl _,fun _ _ _=>rfl⟩
theorem AtS.trans {S:List Nat} {H H1 H2:Heap} (h:AtS S H H1) (g:AtS S H1 H2):AtS S H H2:=⟨Nat.le_trans h.next g.next,fun i hi hk=>by rw [g.same i (Nat.lt_of_lt_of_le hi h.next) hk,h.same i hi hk]⟩
theorem _root_.Go.Ax.Grow.atS {H H':Heap} (h:Grow H H') (S:List Nat):AtS S H H':=⟨h.next,fun i hi _=>h.same i hi⟩
theorem AtS.set {S:List Nat} (H:Heap) {k:Nat} (h:k ∈ S) (b:Option Blk):AtS S H (H.set k b):=⟨Nat.le_refl _,fun i _ hk=>zaD _ _ (fun e=>hk (e ▸ h))⟩
theorem AtS.mono {S S':List Nat} {H H':Heap} (h:AtS S H H') (g:∀ i ∈ S,i ∈ S'):AtS S' H H':=⟨h.next,fun i hi hk=>h.same i hi fun e=>hk (g i e)⟩
theorem AtS.grow {H H':Heap} (h:AtS [] H H'):Grow H H':=⟨h.next,fun i hi=>h.same i hi (by simp)⟩
theorem AtS.new {S:List Nat} {H0 H H':Heap} (g:Grow H0 H) (h:AtS S H H') (hS:∀ i ∈ S,H0.next ≤ i):Grow H0 H' :=
 ⟨Nat.le_trans g.next h.next,fun i hi=>by rw [h.same i (Nat.lt_of_lt_of_le hi g.next) (fun e=>by have:=hS i e; omega),g.same i hi]⟩
theorem _root_.Go.Ax.Lc.atS {e lo n:Nat} {S:List Nat} {H H':Heap} {v:V} {cells:List V} (h:Lc e lo H v cells n) (s:AtS S H H') (hk:∀ i,v.pid = some i → i ∉ S):Lc e lo H' v cells n :=
 ⟨by rw [zdv fun i hi=>s.same i (h.own i hi).2 (hk i hi)]; exact h.rc,fun i hi=>⟨(h.own i hi).1,Nat.lt_of_lt_of_le (h.own i hi).2 s.next⟩,h.cap⟩
theorem copy8 {β:Type} {lo:Nat} {H:Heap} {y:V} {l:List Nat} {f:V → M β} {Q:β → Heap → Prop} (hy:By lo H y l) (hl:l.length ≤ 140737488355328)
  (k:∀ x' H',Ab H.next H' x' l → Grow H H' → Ok (f x') H' Q):Ok ((zaC zaw 1 1 (.sl H.next 0 0 (.fix 0)) y).bind f) (H.new ⟨zaw,[],none⟩) Q :=
 okb_copy hy.ac (fun i hi=>(hy.own i hi).2) (by rw [List.length_map]; omega) (by omega) (by omega) fun x' H' h g=>k x' H' (.app h) g
theorem U_ok {lo:Nat} {H:Heap} {bv:V} {b:List Nat} (n k:Nat) (hb:By lo H bv b) (hn:n < 18446744073709551616) (hk:k ≤ 16) (hbl:b.length ≤ 1099511627000):Ok (sem T zaS [bv,.int .u64 (n:Nat),.int .i64 (k:Nat)]) H fun r H'=>Ab H.next H' r (b ++ num n k) ∧ Grow H H':=by
 refine zga ?_;unfold zen uB uc ub ug;simp (disch:=omega) only [↓RD,RZ];rw [zb8];refine copy8 hb (by omega) fun x0 H0' hx0 s0=>?_;simp (disch:=omega) only [↓RD,RZ];refine zbM (fun m L H'=>∃ w,L = [w,.int .i64 ((k:Int) - 1 - (m:Nat))] ∧ Ab H.next H' w (b ++ (bn k n).take m) ∧ Bel H.next H H') k ?_ ?_ ?_
 ·exact ⟨x0,by simp,by simpa using hx0,s0.bel (Nat.le_refl _)⟩
 ·rintro m L H1 hm ⟨w,rfl,ha,hb'⟩;have e1:(k:Int) - 1 - (m:Nat) = ((k - 1 - m:Nat):Int):=by omega
  have e2:(8:Int) * ((k - 1 - m:Nat):Int) = ((8 * (k - 1 - m):Nat):Int):=by omega
  have e2':IntKind.u64.wrap ((8 * (k - 1 - m):Nat):Int) = ((8 * (k - 1 - m):Nat):Int):=by rw [wrap_u64]; omega
  have e3:shr n (8 * (k - 1 - m)) = n / 256 ^ (k - 1 - m):=by rw [zj6,Nat.shiftRight_eq_div_pow,Nat.pow_mul]
  have hlo1:=hb'.next;have hbg:=bn_get k n m hm;rw [e1];generalize hw:k - 1 - m = w' at *;have e8:IntKind.u8.wrap ((n / 256 ^ w':Nat):Int) = ((n / 256 ^ w' % 256:Nat):Int):=by rw [wrap_u8]; rfl
  unfold zch uL uB uc ub ug;simp (disch:=omega) only [↓RD,RZ,e2,e2',e3,e8];refine zlc (m:=[n / 256 ^ w' % 256]) (Apf.keep ha ((Grow.new _ _).keep _)) (by rw [zag]; omega) (zcr rfl) (by rw [List.length_append,List.length_take,znf]; simp; omega) fun w2 H2 h2 hb2=>?_;simp (disch:=omega) only [↓RD,RZ];refine ⟨w2,by rw [show ((w':Nat):Int) - 1 = (k:Int) - 1 - ((m + 1:Nat):Int) by omega],?_,hb'.trans (((Grow.new _ _).bel (by omega)).trans hb2)⟩;rw [zoE (by rw [znf]; exact hm),hbg,← List.append_assoc];exact h2
 ·rintro L H1 ⟨w,rfl,ha,hb'⟩;have e1:(k:Int) - 1 - (k:Nat) = -1:=by omega
  rw [e1];unfold zch uL uB uc ub ug;simp (disch:=omega) only [↓RD,RZ];rw [List.take_of_length_le (by rw [znf]; exact Nat.le_refl _)] at ha;exact ⟨ha,hb'.grow⟩
theorem Ab.nil {lo:Nat} {H:Heap}:Ab lo H .nils []:=.app .nil
theorem eq_nils {lo:Nat} {H:Heap} {v:V} {l:List Nat} (hv:By lo H v l):(v = .nils ∧ l = []) ∨ Ax.eqr .sl false v .nils = some (.bool false):=by
 rcases hv.cases with ⟨rfl,h,_⟩ | ⟨id,off,cap,b,rfl,_⟩ | ⟨cs,rfl,_⟩
 ·exact .inl ⟨rfl,by simpa using h⟩
 ·exact .inr rfl
 ·exact .inr rfl
theorem znd {lo:Nat} {H:Heap} {v:V} {l:List Nat} (hv:By lo H v l) (hl:l.length ≤ 140737488355328):Ok (sem T zca [v]) H fun r H'=>Ab H.next H' r l ∧ Grow H H':=by
 refine zi9 ?_;unfold zgG uL ub;rcases eq_nils hv with ⟨rfl,rfl⟩ | e
 ·have e:Ax.eqr .sl false .nils .nils = some (.bool true):=rfl;simp (disch:=omega) only [↓RD,RZ,e];exact ⟨Ab.nil,Grow.refl _⟩
 ·simp (disch:=omega) only [↓RD,RZ,e];rw [zb8];refine copy8 hv hl fun x0 H0' hx0 s0=>?_;simp (disch:=omega) only [↓RD,RZ];exact ⟨hx0,s0⟩
/-! Notes. -/
theorem zd9 {H:Heap} (x m:Int):Ok (sem T za5 [.int .i64 x,.int .i64 m]) H fun r H'=>r = .bool (decide (0 ≤ x) && decide (x ≤ m)) ∧ H' = H:=by
 refine zi7 ?_;unfold zgE uL uB uG uH uc;by_cases h:0 ≤ x
 ·have d:decide ((0:Int) ≤ x) = true:=decide_eq_true h;simp (disch:=omega) only [↓RD,RZ,d,Bool.true_and]
 ·have d:decide ((0:Int) ≤ x) = false:=decide_eq_false h;simp (disch:=omega) only [↓RD,RZ,d,Bool.false_and]
def bnd (k:Int):List Int × Bool :=
 if k = 1 then ([3,0,0,0,0,0,0],true) else if k = 2 ∨ k = 9 ∨ k = 23 then ([0,0,0,0,0,0,0],true) else if k = 3 ∨ k = 6 then ([0,7,0,0,0,0,0],true) else
 if k = 4 then ([0,0,0,2,65535,4,4],true) else if k = 5 then ([0,7,0,3,7,0,0],true) else if k = 7 ∨ k = 21 then ([0,7,65535,31,0,1,200],true) else
 if k = 8 ∨ k = 22 then ([0,0,65535,0,0,0,0],true) else if k = 17 then ([3,7,65535,255,65535,8,8],true) else if k = 18 then ([0,0,0,13,9,0,0],true) else
 if k = 19 then ([0,7,65535,255,63,0,0],true) else if k = 20 then ([0,7,65535,255,0,0,0],true) else if k = 24 then ([0,7,0,0,0,4,4],true) else ([0,0,0,0,0,0,0],false)
theorem of_ok {H:Heap} (k:Int):Ok (sem T zfv [.int .i64 k]) H fun r H'=>r = .tup [.agg ((bnd k).1.map (.int .i64)),.bool (bnd k).2] ∧ Grow H H':=by
 refine znE ?_;unfold zlP uL uS uT uB uO uc ug;have fin:∀ cs:List V,Grow H ((H.new ⟨zcU,[.int .i64 0,.int .i64 0,.int .i64 0,.int .i64 0,.int .i64 0,.int .i64 0,.int .i64 0],none⟩).set H.next (some ⟨zcU,cs,none⟩)):=fun cs=>(Grow.new _ _).set (Nat.le_refl _) _;by_cases h1:k = 1
 ·subst h1; simp (maxSteps:=1000000) (disch:=first | omega | (simp only [RY] <;> omega) | decide) only [↓RD,RZ,eq_self,Int.reduceToNat,Int.reduceAdd,Int.reduceSub,Int.reduceMul,Nat.reduceAdd,Nat.reduceSub,Nat.reduceMul,Nat.reduceDiv,Nat.reduceMod,Nat.reduceBEq,Nat.reduceLeDiff]; exact ⟨rfl,fin _⟩
 by_cases h2:k = 2
 ·subst h2; simp (maxSteps:=1000000) (disch:=first | omega | (simp only [RY] <;> omega) | decide) only [↓RD,RZ,eq_self,Int.reduceToNat,Int.reduceAdd,Int.reduceSub,Int.reduceMul,Nat.reduceAdd,Nat.reduceSub,Nat.reduceMul,Nat.reduceDiv,Nat.reduceMod,Nat.reduceBEq,Nat.reduceLeDiff]; exact ⟨rfl,fin _⟩
 by_cases h3:k = 9
 ·subst h3; simp (maxSteps:=1000000) (disch:=first | omega | (simp only [RY] <;> omega) | decide) only [↓RD,RZ,eq_self,Int.reduceToNat,Int.reduceAdd,Int.reduceSub,Int.reduceMul,Nat.reduceAdd,Nat.reduceSub,Nat.reduceMul,Nat.reduceDiv,Nat.reduceMod,Nat.reduceBEq,Nat.reduceLeDiff]; exact ⟨rfl,fin _⟩
 by_cases h4:k = 23
 ·subst h4; simp (maxSteps:=1000000) (disch:=first | omega | (simp only [RY] <;> omega) | decide) only [↓RD,RZ,eq_self,Int.reduceToNat,Int.reduceAdd,Int.reduceSub,Int.reduceMul,Nat.reduceAdd,Nat.reduceSub,Nat.reduceMul,Nat.reduceDiv,Nat.reduceMod,Nat.reduceBEq,Nat.reduceLeDiff]; exact ⟨rfl,fin _⟩
 by_cases h5:k = 3
 ·subst h5; simp (maxSteps:=1000000) (disch:=first | omega | (simp only [RY] <;> omega) | decide) only [↓RD,RZ,eq_self,Int.reduceToNat,Int.reduceAdd,Int.reduceSub,Int.reduceMul,Nat.reduceAdd,Nat.reduceSub,Nat.reduceMul,Nat.reduceDiv,Nat.reduceMod,Nat.reduceBEq,Nat.reduceLeDiff]; exact ⟨rfl,fin _⟩
 by_cases h6:k = 6
 ·subst h6; simp (maxSteps:=1000000) (disch:=first | omega | (simp only [RY] <;> omega) | decide) only [↓RD,RZ,eq_self,Int.reduceToNat,Int.reduceAdd,Int.reduceSub,Int.reduceMul,Nat.reduceAdd,Nat.reduceSub,Nat.reduceMul,Nat.reduceDiv,Nat.reduceMod,Nat.reduceBEq,Nat.reduceLeDiff]; exact ⟨rfl,fin _⟩
 by_cases h7:k = 4
 ·subst h7; simp (maxSteps:=1000000) (disch:=first | omega | (simp only [RY] <;> omega) | decide) only [↓RD,RZ,eq_self,Int.reduceToNat,Int.reduceAdd,Int.reduceSub,Int.reduceMul,Nat.reduceAdd,Nat.reduceSub,Nat.reduceMul,Nat.reduceDiv,Nat.reduceMod,Nat.reduceBEq,Nat.reduceLeDiff]; exact ⟨rfl,fin _⟩
 by_cases h8:k = 5
 ·subst h8; simp (maxSteps:=1000000) (disch:=first | omega | (simp only [RY] <;> omega) | decide) only [↓RD,RZ,eq_self,Int.reduceToNat,Int.reduceAdd,Int.reduceSub,Int.reduceMul,Nat.reduceAdd,Nat.reduceSub,Nat.reduceMul,Nat.reduceDiv,Nat.reduceMod,Nat.reduceBEq,Nat.reduceLeDiff]; exact ⟨rfl,fin _⟩
 by_cases h9:k = 7
 ·subst h9; simp (maxSteps:=1000000) (disch:=first | omega | (simp only [RY] <;> omega) | decide) only [↓RD,RZ,eq_self,Int.reduceToNat,Int.reduceAdd,Int.reduceSub,Int.reduceMul,Nat.reduceAdd,Nat.reduceSub,Nat.reduceMul,Nat.reduceDiv,Nat.reduceMod,Nat.reduceBEq,Nat.reduceLeDiff]; exact ⟨rfl,fin _⟩
 by_cases h10:k = 21
 ·subst h10; simp (maxSteps:=1000000) (disch:=first | omega | (simp only [RY] <;> omega) | decide) only [↓RD,RZ,eq_self,Int.reduceToNat,Int.reduceAdd,Int.reduceSub,Int.reduceMul,Nat.reduceAdd,Nat.reduceSub,Nat.reduceMul,Nat.reduceDiv,Nat.reduceMod,Nat.reduceBEq,Nat.reduceLeDiff]; exact ⟨rfl,fin _⟩
 by_cases h11:k = 8
 ·subst h11; simp (maxSteps:=1000000) (disch:=first | omega | (simp only [RY] <;> omega) | decide) only [↓RD,RZ,eq_self,Int.reduceToNat,Int.reduceAdd,Int.reduceSub,Int.reduceMul,Nat.reduceAdd,Nat.reduceSub,Nat.reduceMul,Nat.reduceDiv,Nat.reduceMod,Nat.reduceBEq,Nat.reduceLeDiff]; exact ⟨rfl,fin _⟩
 by_cases h12:k = 22
 ·subst h12; simp (maxSteps:=1000000) (disch:=first | omega | (simp only [RY] <;> omega) | decide) only [↓RD,RZ,eq_self,Int.reduceToNat,Int.reduceAdd,Int.reduceSub,Int.reduceMul,Nat.reduceAdd,Nat.reduceSub,Nat.reduceMul,Nat.reduceDiv,Nat.reduceMod,Nat.reduceBEq,Nat.reduceLeDiff]; exact ⟨rfl,fin _⟩
 by_cases h13:k = 17
 ·subst h13; simp (maxSteps:=1000000) (disch:=first | omega | (simp only [RY] <;> omega) | decide) only [↓RD,RZ,eq_self,Int.reduceToNat,Int.reduceAdd,Int.reduceSub,Int.reduceMul,Nat.reduceAdd,Nat.reduceSub,Nat.reduceMul,Nat.reduceDiv,Nat.reduceMod,Nat.reduceBEq,Nat.reduceLeDiff]; exact ⟨rfl,fin _⟩
 by_cases h14:k = 18
 ·subst h14; simp (maxSteps:=1000000) (disch:=first | omega | (simp only [RY] <;> omega) | decide) only [↓RD,RZ,eq_self,Int.reduceToNat,Int.reduceAdd,Int.reduceSub,Int.reduceMul,Nat.reduceAdd,Nat.reduceSub,Nat.reduceMul,Nat.reduceDiv,Nat.reduceMod,Nat.reduceBEq,Nat.reduceLeDiff]; exact ⟨rfl,fin _⟩
 by_cases h15:k = 19
 ·subst h15; simp (maxSteps:=1000000) (disch:=first | omega | (simp only [RY] <;> omega) | decide) only [↓RD,RZ,eq_self,Int.reduceToNat,Int.reduceAdd,Int.reduceSub,Int.reduceMul,Nat.reduceAdd,Nat.reduceSub,Nat.reduceMul,Nat.reduceDiv,Nat.reduceMod,Nat.reduceBEq,Nat.reduceLeDiff]; exact ⟨rfl,fin _⟩
 by_cases h16:k = 20
 ·subst h16; simp (maxSteps:=1000000) (disch:=first | omega | (simp only [RY] <;> omega) | decide) only [↓RD,RZ,eq_self,Int.reduceToNat,Int.reduceAdd,Int.reduceSub,Int.reduceMul,Nat.reduceAdd,Nat.reduceSub,Nat.reduceMul,Nat.reduceDiv,Nat.reduceMod,Nat.reduceBEq,Nat.reduceLeDiff]; exact ⟨rfl,fin _⟩
 by_cases h17:k = 24
 ·subst h17; simp (maxSteps:=1000000) (disch:=first | omega | (simp only [RY] <;> omega) | decide) only [↓RD,RZ,eq_self,Int.reduceToNat,Int.reduceAdd,Int.reduceSub,Int.reduceMul,Nat.reduceAdd,Nat.reduceSub,Nat.reduceMul,Nat.reduceDiv,Nat.reduceMod,Nat.reduceBEq,Nat.reduceLeDiff]; exact ⟨rfl,fin _⟩
 have eb:bnd k = ([0,0,0,0,0,0,0],false):=by simp [bnd, *]
 have f:∀ c:Int,k ≠ c → (k == c) = false:=fun c h=>by simpa using h
 have f1:=f _ h1;have f2:=f _ h2;have f3:=f _ h3;have f4:=f _ h4;have f5:=f _ h5;have f6:=f _ h6;have f7:=f _ h7;have f8:=f _ h8;have f9:=f _ h9;have f10:=f _ h10;have f11:=f _ h11;have f12:=f _ h12;have f13:=f _ h13;have f14:=f _ h14;have f15:=f _ h15;have f16:=f _ h16;have f17:=f _ h17;simp (maxSteps:=1000000) (disch:=first | omega | (simp only [RY] <;> omega) | decide) only [↓RD,RZ,eq_self,Int.reduceToNat,Int.reduceAdd,Int.reduceSub,Int.reduceMul,Nat.reduceAdd,Nat.reduceSub,Nat.reduceMul,Nat.reduceDiv,Nat.reduceMod,Nat.reduceBEq,Nat.reduceLeDiff,f1,f2,f3,f4,f5,f6,f7,f8,f9,f10,f11,f12,f13,f14,f15,f16,f17];rw [eb];exact ⟨rfl,fin _⟩
end Go.Ax.SU
/- Dk2 -/
namespace Go.Ax.SU
open Go.Ax
theorem zai (cs:List V):(V.agg cs).cells = cs:=rfl
theorem okb_ldr {n:Option Nat} {H:Heap} {p c:V} {f:V → M Res} {Q:Res → Heap → Prop} (h:LdR n H p c) (k:Ok (f c) H Q):Ok ((zam n p).bind f) H Q:=by
 have:=(h f Q).2 k
 rwa [zb8] at this
theorem za0 {β:Type} {H:Heap} {ty:TypeId} {n:Nat} {zs cs:List V} {f:V → V → M β} {Q:β → Heap → Prop} (hz:zs.length = n) (hl:cs.length = n) (k:∀ q H',q = H.next → H'.get q = some ⟨ty,cs,none⟩ → Grow H H' → H'.next = H.next + 1 → Ok (f (.ptr q 0) .undef) H' Q) :
  Ok ((mbox ty (.agg zs)).bind fun t=>(zdf n t (.agg cs)).bind fun u=>f t u) H Q:=by
 refine zan (zaH rfl ?_);rw [zai];have g:=zad H ⟨ty,zs,none⟩;refine zan (ok_store g (by rw [zai]; exact hl) (by show 0 + n ≤ zs.length; omega) rfl ?_);refine k _ _ rfl ?_ ((Grow.new _ _).set (Nat.le_refl _) _) rfl;rw [zaY,zai];congr 2;unfold splice;rw [List.take_zero,List.nil_append,List.drop_of_length_le (by show zs.length ≤ 0 + cs.length; omega),List.append_nil]
structure Nt where
 k:Int
 r:Int
 s:Int
 e:Int
 n:Int
 m:Int
 b:List Nat
def nC (x:Nt) (bv:V):List V:=[.int .i64 x.k,.int .i64 x.r,.int .i64 x.s,.int .i64 x.e,.int .i64 x.n,.int .i64 x.m,bv]
theorem bnd_form (k:Int):∃ a0 a1 a2 a3 a4 a5 a6 o,bnd k = ([a0,a1,a2,a3,a4,a5,a6],o):=by
 have hl:(bnd k).1.length = 7:=by
  have key:∀ (c:Prop) [Decidable c] (a b:List Int × Bool),a.1.length = 7 → b.1.length = 7 → (if c then a else b).1.length = 7:=by
   intro c _ a b ha hb;split <;> assumption
  unfold bnd
  repeat (first | exact rfl | refine key _ _ _ rfl ?_)
 rcases h:bnd k with ⟨l,o⟩
 rw [h] at hl;rcases l with _ | ⟨a0,_ | ⟨a1,_ | ⟨a2,_ | ⟨a3,_ | ⟨a4,_ | ⟨a5,_ | ⟨a6,_ | ⟨a7,l⟩⟩⟩⟩⟩⟩⟩⟩ <;> simp at hl
 exact ⟨a0,a1,a2,a3,a4,a5,a6,o,rfl⟩
def zeG (x:Nt):Bool :=
 (bnd x.k).2 && ((decide (0 ≤ x.r) && decide (x.r ≤ (bnd x.k).1.getD 0 0)) && ((decide (0 ≤ x.s) && decide (x.s ≤ (bnd x.k).1.getD 1 0)) && ((decide (0 ≤ x.e) && decide (x.e ≤ (bnd x.k).1.getD 2 0)) &&
  ((decide (0 ≤ x.n) && decide (x.n ≤ (bnd x.k).1.getD 3 0)) && ((decide (0 ≤ x.m) && decide (x.m ≤ (bnd x.k).1.getD 4 0)) && (!decide ((x.b.length:Int) < (bnd x.k).1.getD 5 0) && (!decide ((bnd x.k).1.getD 6 0 < (x.b.length:Int)) && (if x.k = 18 then decide (1 ≤ x.n) else true))))))))
def Pl3 (x:Nt):Prop:=x.k ≠ 17 ∧ x.k ≠ 19 ∧ x.k ≠ 20
theorem zls {lo:Nat} {H:Heap} {x:Nt} {bv:V} (hb:By lo H bv x.b) (hk:Pl3 x):Ok (sem T zbW [.agg (nC x bv)]) H fun r H'=>r = .bool (zeG x) ∧ Grow H H':=by
 refine zfa ?_;unfold zeM uL uS uT uFM uE uB uG uH uO uc;obtain ⟨k,r,s,e,n,m,b⟩:=x;obtain ⟨hk1,hk2,hk3⟩:=hk;dsimp only at hk1 hk2 hk3 hb;have vc:=hb.cells1;have vo:=hb.okc;refine zan (zaH (by simp [nC,V.okc,vo]) ?_);rw [zai];have s0:=Grow.new H ⟨zac,nC ⟨k,r,s,e,n,m,b⟩ bv,none⟩;have g0:(H.new ⟨zac,nC ⟨k,r,s,e,n,m,b⟩ bv,none⟩).get H.next = some ⟨zac,nC ⟨k,r,s,e,n,m,b⟩ bv,none⟩:=zad _ _;have n0:(H.new ⟨zac,nC ⟨k,r,s,e,n,m,b⟩ bv,none⟩).next = H.next + 1:=zag _ _;generalize hq:H.next = q at *;generalize H.new _ = H0 at *;unfold nC at g0;dsimp only at g0;simp (disch:=omega) only [↓RD,RZ,g0];refine zae (of_ok k) ?_;rintro _ H1 ⟨rfl,s1⟩;obtain ⟨a0,a1,a2,a3,a4,a5,a6,o,eb⟩:=bnd_form k;have eg:zeG ⟨k,r,s,e,n,m,b⟩ = (o && ((decide (0 ≤ r) && decide (r ≤ a0)) && ((decide (0 ≤ s) && decide (s ≤ a1)) && ((decide (0 ≤ e) && decide (e ≤ a2)) && ((decide (0 ≤ n) && decide (n ≤ a3)) && ((decide (0 ≤ m) && decide (m ≤ a4)) && (!decide ((b.length:Int) < a5) && (!decide (a6 < (b.length:Int)) && (if k = 18 then decide (1 ≤ n) else true))))))))):=by
  unfold zeG;dsimp only;rw [eb];rfl
 have eb1:(bnd k).1.map (V.int .i64) = [.int .i64 a0,.int .i64 a1,.int .i64 a2,.int .i64 a3,.int .i64 a4,.int .i64 a5,.int .i64 a6]:=by rw [eb]; rfl
 have eb2:(bnd k).2 = o:=by rw [eb]
 rw [eb1,eb2,eg];refine zap rfl ?_;refine zap rfl ?_;refine za0 rfl rfl fun q3 H3 e3 g3 s3 n3=>?_;have s13:=s1.trans s3;have n1:=s1.next;have g03:=(s13.same q (by omega)).trans g0;have bl:=(hb.ext (s0.trans s13)).vlen;have w1:=@zbi _ _ _ _ (@zd9 H3 r a0);have w2:=@zbi _ _ _ _ (@zd9 H3 s a1);have w3:=@zbi _ _ _ _ (@zd9 H3 e a2);have w4:=@zbi _ _ _ _ (@zd9 H3 n a3);have w5:=@zbi _ _ _ _ (@zd9 H3 m a4);have gr:=s0.trans s13;generalize (decide (0 ≤ r) && decide (r ≤ a0)) = b1 at *;generalize (decide (0 ≤ s) && decide (s ≤ a1)) = b2 at *;generalize (decide (0 ≤ e) && decide (e ≤ a2)) = b3 at *;generalize (decide (0 ≤ n) && decide (n ≤ a3)) = b4 at *;generalize (decide (0 ≤ m) && decide (m ≤ a4)) = b5 at *;cases o with
 | false=>simp (disch:=omega) only [↓RD,RZ,g3,g03]; exact ⟨rfl,gr⟩
 | true =>
 cases b1 with
 | false=>simp (disch:=omega) only [↓RD,RZ,g3,g03,w1]; exact ⟨rfl,gr⟩
 | true =>
 cases b2 with
 | false=>simp (disch:=omega) only [↓RD,RZ,g3,g03,w1,w2]; exact ⟨rfl,gr⟩
 | true =>
 cases b3 with
 | false=>simp (disch:=omega) only [↓RD,RZ,g3,g03,w1,w2,w3]; exact ⟨rfl,gr⟩
 | true =>
 cases b4 with
 | false=>simp (disch:=omega) only [↓RD,RZ,g3,g03,w1,w2,w3,w4]; exact ⟨rfl,gr⟩
 | true =>
 cases b5 with
 | false=>simp (disch:=omega) only [↓RD,RZ,g3,g03,w1,w2,w3,w4,w5]; exact ⟨rfl,gr⟩
 | true =>
 cases h6:decide ((b.length:Int) < a5) with
 | true=>simp (disch:=omega) only [↓RD,RZ,g3,g03,w1,w2,w3,w4,w5,bl,h6]; exact ⟨rfl,gr⟩
 | false =>
 cases h7:decide (a6 < (b.length:Int)) with
 | true=>simp (disch:=omega) only [↓RD,RZ,g3,g03,w1,w2,w3,w4,w5,bl,h6,h7]; exact ⟨rfl,gr⟩
 | false =>
 have f1:(k == 17) = false:=by simpa using hk1
 have f2:(k == 19) = false:=by simpa using hk2
 have f3:(k == 20) = false:=by simpa using hk3
 by_cases h18:k = 18
 ·have f4:(k == 18) = true:=by simpa using h18
  rw [if_pos h18];simp (disch:=omega) only [↓RD,RZ,g3,g03,w1,w2,w3,w4,w5,bl,h6,h7,f1,f4];exact ⟨by simp,gr⟩
 ·have f4:(k == 18) = false:=by simpa using h18
  rw [if_neg h18];simp (disch:=omega) only [↓RD,RZ,g3,g03,w1,w2,w3,w4,w5,bl,h6,h7,f1,f2,f3,f4];exact ⟨rfl,gr⟩
end Go.Ax.SU
/- Dk3 -/
namespace Go.Ax.SU
open Go.Ax
theorem Apf.low {ty e lo lo' n:Nat} {H:Heap} {v:V} {cells:List V} (h:Apf ty e lo H v cells n) (hl:lo' ≤ lo):Apf ty e lo' H v cells n:=by
 cases h with
 | app h =>
  cases h with
  | opn h ho=>exact .app (.opn h fun i hi=>⟨Nat.le_trans hl (ho i hi).1,(ho i hi).2⟩)
  | lit h h0 h1=>exact .app (.lit h (Nat.le_trans hl h0) h1)
 | full h hl' h0 h1=>exact .full h hl' (Nat.le_trans hl h0) h1
theorem ite_P {α:Type} {c:Prop} [Decidable c] {a b:α} {P:α → Prop} (h1:c → P a) (h2:¬ c → P b):P (if c then a else b):=by
 by_cases h:c
 ·rw [if_pos h]; exact h1 h
 ·rw [if_neg h]; exact h2 h
theorem bnd_le (k:Int):(bnd k).1.getD 0 0 ≤ 3 ∧ (bnd k).1.getD 1 0 ≤ 7 ∧ (bnd k).1.getD 2 0 ≤ 65535 ∧ (bnd k).1.getD 3 0 ≤ 65535 ∧ (bnd k).1.getD 4 0 ≤ 65535 ∧ (bnd k).1.getD 6 0 ≤ 200 ∧ ((bnd k).2 = true → 1 ≤ k ∧ k ≤ 24):=by
 unfold bnd
 repeat (refine ite_P (P:=fun p:List Int × Bool=>p.1.getD 0 0 ≤ 3 ∧ p.1.getD 1 0 ≤ 7 ∧ p.1.getD 2 0 ≤ 65535 ∧ p.1.getD 3 0 ≤ 65535 ∧ p.1.getD 4 0 ≤ 65535 ∧ p.1.getD 6 0 ≤ 200 ∧ (p.2 = true → 1 ≤ k ∧ k ≤ 24)) (fun h=>⟨by decide,by decide,by decide,by decide,by decide,by decide,fun _=>by omega⟩) (fun h=>?_))
 exact ⟨by decide,by decide,by decide,by decide,by decide,by decide,fun h=>by cases h⟩
theorem ziA {x:Nt} (h:zeG x = true):(1 ≤ x.k ∧ x.k ≤ 24) ∧ (0 ≤ x.r ∧ x.r ≤ 3) ∧ (0 ≤ x.s ∧ x.s ≤ 7) ∧ (0 ≤ x.e ∧ x.e ≤ 65535) ∧ (0 ≤ x.n ∧ x.n ≤ 65535) ∧ (0 ≤ x.m ∧ x.m ≤ 65535) ∧ x.b.length ≤ 200:=by
 obtain ⟨h0,h1,h2,h3,h4,h6,h7⟩:=bnd_le x.k;simp only [zeG,Bool.and_eq_true,decide_eq_true_eq,Bool.not_eq_true',decide_eq_false_iff_not] at h;obtain ⟨g0,g1,g2,g3,g4,g5,g6,g7,-⟩:=h;refine ⟨h7 g0,⟨g1.1,by omega⟩,⟨g2.1,by omega⟩,⟨g3.1,by omega⟩,⟨g4.1,by omega⟩,⟨g5.1,by omega⟩,by omega⟩
def by2 (y:Nat):List Nat:=[y / 256 % 256,y % 256]
def zaE (x:Nt):List Nat:=[x.k.toNat,x.r.toNat,x.s.toNat] ++ [x.e.toNat,x.n.toNat,x.m.toNat,x.b.length].flatMap by2 ++ x.b
theorem zjY {lo:Nat} {H:Heap} {x:Nt} {bv:V} (g:Bool) (hb:By lo H bv x.b) (hgood:∀ H,By lo H bv x.b → Ok (sem T zbW [.agg (nC x bv)]) H fun r H'=>r = .bool g ∧ Grow H H')
  (hle:g = true → (1 ≤ x.k ∧ x.k ≤ 24) ∧ (0 ≤ x.r ∧ x.r ≤ 3) ∧ (0 ≤ x.s ∧ x.s ≤ 7) ∧ (0 ≤ x.e ∧ x.e ≤ 65535) ∧ (0 ≤ x.n ∧ x.n ≤ 65535) ∧ (0 ≤ x.m ∧ x.m ≤ 65535) ∧ x.b.length ≤ 200):Ok (sem T zcB [.agg (nC x bv)]) H fun r H'=>Grow H H' ∧ (g = false ∧ r = .tup [.nils,.int .i64 1] ∨ g = true ∧ ∃ v,r = .tup [v,.int .i64 0] ∧ Ab H.next H' v (zaE x)):=by
 refine zkm ?_;unfold zhG uL uS uFM uO uc ub ug;obtain ⟨k,r,s,e,n,m,b⟩:=x;dsimp only at hle hb hgood;have vc:=hb.cells1;have vo:=hb.okc;refine zan (zaH (by simp [nC,V.okc,vo]) ?_);rw [zai];have s0:=Grow.new H ⟨zac,nC ⟨k,r,s,e,n,m,b⟩ bv,none⟩;have g0:(H.new ⟨zac,nC ⟨k,r,s,e,n,m,b⟩ bv,none⟩).get H.next = some ⟨zac,nC ⟨k,r,s,e,n,m,b⟩ bv,none⟩:=zad _ _;have n0:(H.new ⟨zac,nC ⟨k,r,s,e,n,m,b⟩ bv,none⟩).next = H.next + 1:=zag _ _;generalize hq:H.next = q at *;generalize H.new _ = H0 at *;have l0:ldc (some 7) (nC ⟨k,r,s,e,n,m,b⟩ bv) 0 = some (.agg (nC ⟨k,r,s,e,n,m,b⟩ bv)):=rfl;simp (maxSteps:=1000000) (disch:=first | omega | (simp only [RY] <;> omega) | decide) only [↓RD,RZ,eq_self,Int.reduceToNat,Int.reduceAdd,Int.reduceSub,Int.reduceMul,Nat.reduceAdd,Nat.reduceSub,Nat.reduceMul,Nat.reduceDiv,Nat.reduceMod,Nat.reduceBEq,Nat.reduceLeDiff,g0,l0];refine zae (hgood H0 (hb.ext s0)) ?_;rintro _ H1 ⟨rfl,s1⟩;have n1:=s1.next;have s01:=s0.trans s1;have g1:=(s1.same q (by omega)).trans g0;cases hg:g with
 | false=>simp (maxSteps:=1000000) (disch:=first | omega | (simp only [RY] <;> omega) | decide) only [↓RD,RZ,eq_self,Int.reduceToNat,Int.reduceAdd,Int.reduceSub,Int.reduceMul,Nat.reduceAdd,Nat.reduceSub,Nat.reduceMul,Nat.reduceDiv,Nat.reduceMod,Nat.reduceBEq,Nat.reduceLeDiff]; exact ⟨s01,.inl trivial⟩
 | true =>
 obtain ⟨h1,h2,h3,h4,h5,h6,h7⟩:=hle hg;obtain ⟨k,rfl⟩:∃ y:Nat,k = (y:Nat):=⟨k.toNat,by omega⟩;obtain ⟨r,rfl⟩:∃ y:Nat,r = (y:Nat):=⟨r.toNat,by omega⟩;obtain ⟨s,rfl⟩:∃ y:Nat,s = (y:Nat):=⟨s.toNat,by omega⟩;obtain ⟨e,rfl⟩:∃ y:Nat,e = (y:Nat):=⟨e.toNat,by omega⟩;obtain ⟨n,rfl⟩:∃ y:Nat,n = (y:Nat):=⟨n.toNat,by omega⟩;obtain ⟨m,rfl⟩:∃ y:Nat,m = (y:Nat):=⟨m.toNat,by omega⟩;unfold nC at g1;dsimp only at g1;have w8:∀ y:Nat,y < 256 → IntKind.u8.wrap ((y:Nat):Int) = ((y:Nat):Int):=fun y hy=>by rw [wrap_u8]; omega
 have wk:=w8 k (by omega);have wr:=w8 r (by omega);have ws:=w8 s (by omega);have bl:=(hb.ext s01).vlen;simp (maxSteps:=1000000) (disch:=first | omega | (simp only [RY] <;> omega) | decide) only [↓RD,RZ,eq_self,Int.reduceToNat,Int.reduceAdd,Int.reduceSub,Int.reduceMul,Nat.reduceAdd,Nat.reduceSub,Nat.reduceMul,Nat.reduceDiv,Nat.reduceMod,Nat.reduceBEq,Nat.reduceLeDiff,g1,wk,wr,ws,bl];have sA:=Grow.new H1 ⟨zaw,[.int .u8 (k:Nat),.int .u8 (r:Nat),.int .u8 (s:Nat)],none⟩;have gA:(H1.new ⟨zaw,[.int .u8 (k:Nat),.int .u8 (r:Nat),.int .u8 (s:Nat)],none⟩).get H1.next = _:=zad _ _;have nA:(H1.new ⟨zaw,[.int .u8 (k:Nat),.int .u8 (r:Nat),.int .u8 (s:Nat)],none⟩).next = H1.next + 1:=zag _ _;generalize H1.new _ = H2 at *;have sB:=Grow.new H2 ⟨ze4,[.int .i64 (e:Nat),.int .i64 (n:Nat),.int .i64 (m:Nat),.int .i64 (b.length:Nat)],none⟩;have gB:(H2.new ⟨ze4,[.int .i64 (e:Nat),.int .i64 (n:Nat),.int .i64 (m:Nat),.int .i64 (b.length:Nat)],none⟩).get H2.next = _:=zad _ _;have nB:(H2.new ⟨ze4,[.int .i64 (e:Nat),.int .i64 (n:Nat),.int .i64 (m:Nat),.int .i64 (b.length:Nat)],none⟩).next = H2.next + 1:=zag _ _;rw [nA] at gB;generalize H2.new _ = H3 at *;have gA3:=(sB.same H1.next (by omega)).trans gA;have s13:=sA.trans sB;have g3:=(s13.same q (by omega)).trans g1;generalize hqB:H1.next = p at *;obtain ⟨F,hF⟩:∃ F:Nat → List Nat,∀ i,F i = ([e,n,m,b.length].take i).flatMap by2:=⟨_,fun _=>rfl⟩;have hF0:F 0 = []:=hF 0;have hF4:F 4 = [e,n,m,b.length].flatMap by2:=hF 4;have hints:∀ i,i < 4 → ∃ y,y < 65536 ∧ ([.int .i64 (e:Nat),.int .i64 (n:Nat),.int .i64 (m:Nat),.int .i64 (b.length:Nat)]:List V)[i]? = some (.int .i64 (y:Nat)) ∧ F (i + 1) = F i ++ by2 y:=by
  intro i hi;rw [hF,hF];have:i = 0 ∨ i = 1 ∨ i = 2 ∨ i = 3:=by omega
  rcases this with rfl | rfl | rfl | rfl
  ·exact ⟨e,by omega,rfl,rfl⟩
  ·exact ⟨n,by omega,rfl,rfl⟩
  ·exact ⟨m,by omega,rfl,rfl⟩
  ·exact ⟨b.length,by omega,rfl,rfl⟩
 have hfl:∀ i,(F i).length ≤ 8:=by
  intro i;rw [hF];have h1:(([e,n,m,b.length].take i).flatMap by2).length = 2 * ([e,n,m,b.length].take i).length:=by
   induction ([e,n,m,b.length].take i) with
   | nil=>rfl
   | cons a l ih=>rw [List.flatMap_cons,List.length_append,ih,List.length_cons]; simp [by2]; omega
  rw [h1,List.length_take];simp only [List.length_cons,List.length_nil];omega
 refine zaL (Q:=fun r' H'=>∃ w,r' = .ex 0 [w] ∧ Ab p H' w ([k,r,s] ++ F 4) ∧ Bel p H3 H') ?_ ?_
 ·refine zbM (fun i L H'=>∃ w,L = [w,.int .i64 (i:Nat)] ∧ Ab p H' w ([k,r,s] ++ F i) ∧ Bel p H3 H' ∧ H'.get (p + 1) = H3.get (p + 1) ∧ w.pid ≠ some (p + 1)) 4 ?_ ?_ ?_
  ·exact ⟨_,rfl,by rw [hF0]; exact .full gA3 rfl (Nat.le_refl _) (by omega),Bel.refl _ _,rfl,by simp [V.pid]⟩
  ·rintro i _ H4 hi ⟨w,rfl,ha,hbel,hsame,hpid⟩;obtain ⟨y,hy,hc,hf⟩:=hints i hi;have n4:=hbel.next;have g4:=hsame.trans gB;have d:decide (((i:Nat):Int) < ((4:Nat):Int)) = true:=decide_eq_true (by omega);have d':decide (i < 4) = true:=decide_eq_true hi;have hia:∀ {kk:IntKind},Ax.iaddr none 1 (.sl (p + 1) 0 4 (.fix 4)) (.int kk ((i:Nat):Int)) = some (.ptr (p + 1) i):=fun {kk}=>by rw [zeD (by omega) (by omega),Int.toNat_natCast,Nat.mul_one,Nat.zero_add]
   have e3:shr y 8 = y / 256:=by rw [zj6,Nat.shiftRight_eq_div_pow]
   have w1:IntKind.u8.wrap ((y / 256:Nat):Int) = ((y / 256 % 256:Nat):Int):=by rw [wrap_u8]; rfl
   have w2:IntKind.u8.wrap ((y:Nat):Int) = ((y % 256:Nat):Int):=by rw [wrap_u8]; rfl
   have hli:=hfl i;unfold zd8 uL uB uIM uc ub uq ug;simp (maxSteps:=1000000) (disch:=first | omega | (simp only [RY] <;> omega) | decide) only [↓RD,RZ,eq_self,Int.reduceToNat,Int.reduceAdd,Int.reduceSub,Int.reduceMul,Nat.reduceAdd,Nat.reduceSub,Nat.reduceMul,Nat.reduceDiv,Nat.reduceMod,Nat.reduceBEq,Nat.reduceLeDiff,d,d',hia,g4,hc,e3,w1,w2];have hkeep:=Apf.keep ha ((Grow.new H4 ⟨zaw,[.int .u8 (y / 256 % 256:Nat),.int .u8 (y % 256:Nat)],none⟩).keep _);refine zo3 (m:=by2 y) hkeep (by rw [zag]; omega) (zcr rfl) (by simp only [List.length_append,List.length_cons,List.length_nil,by2]; omega) fun w2 H5 h2 hb2 st2=>?_;have n5:=hb2.next;rw [zag] at n5;simp (maxSteps:=1000000) (disch:=first | omega | (simp only [RY] <;> omega) | decide) only [↓RD,RZ,eq_self,Int.reduceToNat,Int.reduceAdd,Int.reduceSub,Int.reduceMul,Nat.reduceAdd,Nat.reduceSub,Nat.reduceMul,Nat.reduceDiv,Nat.reduceMod,Nat.reduceBEq,Nat.reduceLeDiff];refine ⟨w2,rfl,by show Ab p H5 w2 ([k,r,s] ++ F (i + 1)); rw [hf,← List.append_assoc]; exact h2,hbel.trans (((Grow.new _ _).bel (by omega)).trans hb2),?_,fun e=>?_⟩
   ·rw [st2.same (p + 1) (by rw [zag]; omega) (by simp [zd2,hpid]),zaX _ _ (by omega)];exact hsame
   ·rcases st2.own (p + 1) (by simp [e]) with h | h
    ·exact hpid (by simpa [zd2] using h)
    ·rw [zag] at h; omega
  ·rintro _ H4 ⟨w,rfl,ha,hbel,hsame,hpid⟩;unfold zd8 uL uB uIM uc ub uq ug;simp (maxSteps:=1000000) (disch:=first | omega | (simp only [RY] <;> omega) | decide) only [↓RD,RZ,eq_self,Int.reduceToNat,Int.reduceAdd,Int.reduceSub,Int.reduceMul,Nat.reduceAdd,Nat.reduceSub,Nat.reduceMul,Nat.reduceDiv,Nat.reduceMod,Nat.reduceBEq,Nat.reduceLeDiff];exact ⟨w,rfl,ha,hbel⟩
 ·rintro _ H4 ⟨w,rfl,ha,hbel⟩;have n4:=hbel.next;have s04:Grow H H4:=(s01.trans s13).bel' (by omega) hbel;have g4:=(hbel.same q (by omega)).trans g3;simp (maxSteps:=1000000) (disch:=first | omega | (simp only [RY] <;> omega) | decide) only [↓RD,RZ,eq_self,Int.reduceToNat,Int.reduceAdd,Int.reduceSub,Int.reduceMul,Nat.reduceAdd,Nat.reduceSub,Nat.reduceMul,Nat.reduceDiv,Nat.reduceMod,Nat.reduceBEq,Nat.reduceLeDiff,g4];refine zlc ha (by omega) (hb.ext s04).ac (by have:=hfl 4; simp only [List.length_append,List.length_cons,List.length_nil]; omega) fun w2 H5 h2 hb2=>?_;simp (maxSteps:=1000000) (disch:=first | omega | (simp only [RY] <;> omega) | decide) only [↓RD,RZ,eq_self,Int.reduceToNat,Int.reduceAdd,Int.reduceSub,Int.reduceMul,Nat.reduceAdd,Nat.reduceSub,Nat.reduceMul,Nat.reduceDiv,Nat.reduceMod,Nat.reduceBEq,Nat.reduceLeDiff];refine ⟨s04.bel' (by omega) hb2,.inr ⟨w2,rfl,?_⟩⟩;rw [hF4] at h2;exact Apf.low h2 (by omega)
theorem zot {lo:Nat} {H:Heap} {x:Nt} {bv:V} (hb:By lo H bv x.b) (hk:Pl3 x):Ok (sem T zcB [.agg (nC x bv)]) H fun r H'=>Grow H H' ∧ (zeG x = false ∧ r = .tup [.nils,.int .i64 1] ∨ zeG x = true ∧ ∃ v,r = .tup [v,.int .i64 0] ∧ Ab H.next H' v (zaE x)) :=
 zjY (zeG x) hb (fun H hb=>zls hb hk) ziA
end Go.Ax.SU
/- Dk4 -/
namespace Go.Ax.SU
open Go.Ax
def twoB (b:List Nat) (i:Nat):Nat:=b.getD i 0 * 256 + b.getD (i + 1) 0
def zN:Nt:=⟨0,0,0,0,0,0,[]⟩
def rawN (b:List Nat):Nt:=⟨(b.getD 0 0:Nat),(b.getD 1 0:Nat),(b.getD 2 0:Nat),(twoB b 3:Nat),(twoB b 5:Nat),(twoB b 7:Nat),b.drop 11⟩
def zeQ (b:List Nat):Nat :=
 if b.length < 11 then 3 else if 200 < twoB b 9 then 4 else if b.length - 11 < twoB b 9 then 3 else if twoB b 9 < b.length - 11 then 2 else if zeG (rawN b) = false then 2 else 0
theorem twoB_lt {b:List Nat} (h:Ok8 b) (i:Nat):twoB b i < 65536:=by
 have h1:=h.getD i;have h2:=h.getD (i + 1);unfold twoB;omega
theorem two8 {x y:Nat} (hx:x < 256) (hy:y < 256):x * 256 ||| y = x * 256 + y:=or256 x y hy
theorem zjd {x:Nat} (h:x < 256):IntKind.i64.wrap ((x:Nat):Int) = ((x:Nat):Int):=wrap_i64 (by omega) (by omega)
theorem zh1 {lo:Nat} {H:Heap} {q:Nat} {bv:V} {b:List Nat} {i:Nat} (hq:H.get q = some ⟨zcL,[bv],none⟩) (hb:By lo H bv b) (b8:Ok8 b) (hi:i + 1 < b.length) (hl:b.length ≤ 1000000) :
  Ok (sem T za9 [.int .i64 (i:Nat),.ptr q 0]) H fun r H'=>r = .int .i64 (twoB b i:Nat) ∧ H' = H:=by
 refine zim ?_;unfold zfK uL uM uB uIM uc uq;obtain ⟨p0,hp0,hl0,-⟩:=zhY hb (i:=(i:Nat)) (by omega) (by omega);obtain ⟨p1,hp1,hl1,-⟩:=zhY hb (i:=((i + 1:Nat):Int)) (by omega) (by omega);rw [Int.toNat_natCast] at hl0 hl1;have h0:=b8.getD i;have h1:=b8.getD (i + 1);have c0:=zjd h0;have c1:=zjd h1;have w:IntKind.i64.wrap (((i:Nat):Int) + 1) = ((i + 1:Nat):Int):=by rw [wrap_i64 (by omega) (by omega)]; omega
 have sh:Ax.bin .shl (.int .i64 (b.getD i 0:Nat)) (.int .u64 8) = some (.int .i64 (b.getD i 0 * 256:Nat)):=by
  rw [zf5 (by decide)];have:((b.getD i 0:Nat):Int) * 2 ^ min (8:Int).toNat IntKind.i64.bits = ((b.getD i 0 * 256:Nat):Int):=by
   show ((b.getD i 0:Nat):Int) * 256 = _;omega
  rw [this,wrap_i64 (by omega) (by omega)]
 have ho:=two8 h0 h1;unfold twoB;generalize b.getD i 0 = x at *;generalize b.getD (i + 1) 0 = y at *;have ho':Ax.bin .or (.int .i64 (x * 256:Nat)) (.int .i64 (y:Nat)) = some (.int .i64 (x * 256 + y:Nat)):=by
  rw [zmZ (by omega) (by omega) (by omega) (by omega),Int.toNat_natCast,Int.toNat_natCast,ho]
 simp (disch:=omega) only [↓RD,RZ,hq,hp0,hl0,hp1,hl1,c0,c1,w,sh,ho']
theorem zjW {lo:Nat} {H:Heap} {bv:V} {b:List Nat} (hb:By lo H bv b) (b8:Ok8 b) (hl:b.length ≤ 1000000) (hk:Pl3 (rawN b)) :
  Ok (sem T zds [bv]) H fun r H'=>Grow H H' ∧ (zeQ b ≠ 0 ∧ r = .tup [.agg (nC zN .nils),.int .i64 (zeQ b:Nat)] ∨ zeQ b = 0 ∧ ∃ v,r = .tup [.agg (nC (rawN b) v),.int .i64 0] ∧ By H.next H' v (b.drop 11)):=by
 refine zkl ?_;unfold zhF uL uM uS uT uF uB uI uO uU uc;have vc:=hb.cells1;have vo:=hb.okc;refine zan (zaH vo ?_);rw [vc];have s0:=Grow.new H ⟨zcL,[bv],none⟩;have g0:(H.new ⟨zcL,[bv],none⟩).get H.next = some ⟨zcL,[bv],none⟩:=zad _ _;have n0:(H.new ⟨zcL,[bv],none⟩).next = H.next + 1:=zag _ _;generalize hq:H.next = q at *;generalize H.new _ = H0 at *;refine zan (zaH rfl ?_);rw [zai];have s1:=Grow.new H0 ⟨zac,nC zN .nils,none⟩;have p1:(H0.new ⟨zac,nC zN .nils,none⟩).get H0.next = some ⟨zac,nC zN .nils,none⟩:=zad _ _;have n1:(H0.new ⟨zac,nC zN .nils,none⟩).next = H0.next + 1:=zag _ _;have g1:=(s1.same q (by omega)).trans g0;show Ok _ (H0.new ⟨zac,nC zN .nils,none⟩) _;rw [n0] at *;generalize H0.new _ = H1 at *;have hb1:=hb.ext (s0.trans s1);have bl:=hb1.vlen;have s01:=s0.trans s1;have fin:∀ (H2:Heap) (cs:List V),Grow H H2 → Grow H (H2.set (q + 1) (some ⟨zac,cs,none⟩)):=fun H2 cs h=>h.set (by omega) _;by_cases hlen:b.length < 11
 ·have e:zeQ b = 3:=by unfold zeQ; rw [if_pos hlen]
  have d:decide (((b.length:Nat):Int) < 11) = true:=decide_eq_true (by omega);have d':decide (b.length < 11) = true:=decide_eq_true hlen;rw [e];unfold nC zN at p1;simp (maxSteps:=1000000) (disch:=first | omega | (simp only [RY] <;> omega) | decide) only [↓RD,RZ,eq_self,Int.reduceToNat,Int.reduceAdd,Int.reduceSub,Int.reduceMul,Nat.reduceAdd,Nat.reduceSub,Nat.reduceMul,Nat.reduceDiv,Nat.reduceMod,Nat.reduceBEq,Nat.reduceLeDiff,g1,bl,d,d',p1];exact ⟨fin _ _ s01,.inl ⟨by decide,rfl⟩⟩
 have d:decide (((b.length:Nat):Int) < 11) = false:=decide_eq_false (by omega);have d':decide (b.length < 11) = false:=decide_eq_false hlen;obtain ⟨p0,hp0,hl0,-⟩:=zhY hb1 (i:=0) (by omega) (by omega);obtain ⟨p1',hp1,hl1,-⟩:=zhY hb1 (i:=1) (by omega) (by omega);obtain ⟨p2,hp2,hl2,-⟩:=zhY hb1 (i:=2) (by omega) (by omega);have c0:=zjd (b8.getD 0);have c1:=zjd (b8.getD 1);have c2:=zjd (b8.getD 2);have t3:=@zbi _ _ _ _ (show Ok (callv (sem T) (.fn za9 [.ptr q 0]) [.int .i64 3]) H1 _ from zh1 (i:=3) g1 hb1 b8 (by omega) hl);have t5:=@zbi _ _ _ _ (show Ok (callv (sem T) (.fn za9 [.ptr q 0]) [.int .i64 5]) H1 _ from zh1 (i:=5) g1 hb1 b8 (by omega) hl);have t7:=@zbi _ _ _ _ (show Ok (callv (sem T) (.fn za9 [.ptr q 0]) [.int .i64 7]) H1 _ from zh1 (i:=7) g1 hb1 b8 (by omega) hl);simp (maxSteps:=1000000) (disch:=first | omega | (simp only [RY] <;> omega) | decide) only [↓RD,RZ,eq_self,Int.reduceToNat,Int.reduceAdd,Int.reduceSub,Int.reduceMul,Nat.reduceAdd,Nat.reduceSub,Nat.reduceMul,Nat.reduceDiv,Nat.reduceMod,Nat.reduceBEq,Nat.reduceLeDiff,g1,bl,d,d',hp0,hp1,hp2,hl0,hl1,hl2,c0,c1,c2,t3,t5,t7];have h8:=b8.getD;have s2:Grow H1 ((H1.new ⟨zac,[.int .i64 0,.int .i64 0,.int .i64 0,.int .i64 0,.int .i64 0,.int .i64 0,.nils],none⟩).set H1.next (some ⟨zac,nC { rawN b with b:=[] } .nils,none⟩)):=(Grow.new _ _).set (Nat.le_refl _) _;have p3:((H1.new ⟨zac,[.int .i64 0,.int .i64 0,.int .i64 0,.int .i64 0,.int .i64 0,.int .i64 0,.nils],none⟩).set H1.next (some ⟨zac,nC { rawN b with b:=[] } .nils,none⟩)).get H1.next = _:=zaY _ _ _;have n2:((H1.new ⟨zac,[.int .i64 0,.int .i64 0,.int .i64 0,.int .i64 0,.int .i64 0,.int .i64 0,.nils],none⟩).set H1.next (some ⟨zac,nC { rawN b with b:=[] } .nils,none⟩)).next = H1.next + 1:=rfl;have hn1:H1.next = q + 2:=by omega
 rw [hn1] at s2 p3 n2;have en1:q + 1 + 1 = q + 2:=rfl;rw [hn1];unfold nC rawN at s2 p3 n2;dsimp only at s2 p3 n2;generalize Heap.set (Heap.new H1 _) _ _ = H2 at *;have g2:=(s2.same q (by omega)).trans g1;have p2:=(s2.same (q + 1) (by omega)).trans p1;have hb2:=hb1.ext s2;have s02:=s01.trans s2;obtain ⟨rv,-,-,hs,hrv,-⟩:=zne hb2 (x:=11) (y:=(b.length:Nat)) (by omega) (by omega) (by omega);replace hs:∀ {kk:IntKind},zbA .sl 1 bv (some (.int kk 11)) none none = some rv:=hs rfl;have hr2:By lo H2 rv (b.drop 11):=by
  have e:((b.drop (11:Int).toNat).take (((b.length:Nat):Int).toNat - (11:Int).toNat)) = b.drop 11:=List.take_of_length_le (by rw [List.length_drop,Int.toNat_natCast]; exact Nat.le_refl _);rw [e] at hrv;exact hrv
 have rl:=hr2.vlen;rw [List.length_drop] at rl;have t9:=@zbi _ _ _ _ (show Ok (callv (sem T) (.fn za9 [.ptr q 0]) [.int .i64 9]) H2 _ from zh1 (i:=9) g2 hb2 b8 (by omega) hl);have h9:=twoB_lt b8 9;unfold nC zN at p2;dsimp only at p2;have eE:zeQ b = if 200 < twoB b 9 then 4 else if b.length - 11 < twoB b 9 then 3 else if twoB b 9 < b.length - 11 then 2 else if zeG (rawN b) = false then 2 else 0:=by
  unfold zeQ;rw [if_neg hlen]
 simp (maxSteps:=1000000) (disch:=first | omega | (simp only [RY] <;> omega) | decide) only [↓RD,RZ,eq_self,Int.reduceToNat,Int.reduceAdd,Int.reduceSub,Int.reduceMul,Nat.reduceAdd,Nat.reduceSub,Nat.reduceMul,Nat.reduceDiv,Nat.reduceMod,Nat.reduceBEq,Nat.reduceLeDiff,hs,t9];by_cases k1:200 < twoB b 9
 ·have d1:decide ((200:Int) < ((twoB b 9:Nat):Int)) = true:=decide_eq_true (by omega);have d1':decide (200 < twoB b 9) = true:=decide_eq_true k1;rw [if_pos k1] at eE;rw [eE];simp (maxSteps:=1000000) (disch:=first | omega | (simp only [RY] <;> omega) | decide) only [↓RD,RZ,eq_self,Int.reduceToNat,Int.reduceAdd,Int.reduceSub,Int.reduceMul,Nat.reduceAdd,Nat.reduceSub,Nat.reduceMul,Nat.reduceDiv,Nat.reduceMod,Nat.reduceBEq,Nat.reduceLeDiff,d1,d1',p2];exact ⟨fin _ _ s02,.inl ⟨by decide,rfl⟩⟩
 have d1:decide ((200:Int) < ((twoB b 9:Nat):Int)) = false:=decide_eq_false (by omega);have d1':decide (200 < twoB b 9) = false:=decide_eq_false k1;rw [if_neg k1] at eE;by_cases k2:b.length - 11 < twoB b 9
 ·have d2:decide (((b.length - 11:Nat):Int) < ((twoB b 9:Nat):Int)) = true:=decide_eq_true (by omega);have d2':decide (b.length - 11 < twoB b 9) = true:=decide_eq_true k2;rw [if_pos k2] at eE;rw [eE];simp (maxSteps:=1000000) (disch:=first | omega | (simp only [RY] <;> omega) | decide) only [↓RD,RZ,eq_self,Int.reduceToNat,Int.reduceAdd,Int.reduceSub,Int.reduceMul,Nat.reduceAdd,Nat.reduceSub,Nat.reduceMul,Nat.reduceDiv,Nat.reduceMod,Nat.reduceBEq,Nat.reduceLeDiff,d1,d1',rl,d2,d2',p2];exact ⟨fin _ _ s02,.inl ⟨by decide,rfl⟩⟩
 have d2:decide (((b.length - 11:Nat):Int) < ((twoB b 9:Nat):Int)) = false:=decide_eq_false (by omega);have d2':decide (b.length - 11 < twoB b 9) = false:=decide_eq_false k2;rw [if_neg k2] at eE;by_cases k3:twoB b 9 < b.length - 11
 ·have d3:decide (((twoB b 9:Nat):Int) < ((b.length - 11:Nat):Int)) = true:=decide_eq_true (by omega);have d3':decide (twoB b 9 < b.length - 11) = true:=decide_eq_true k3;rw [if_pos k3] at eE;rw [eE];simp (maxSteps:=1000000) (disch:=first | omega | (simp only [RY] <;> omega) | decide) only [↓RD,RZ,eq_self,Int.reduceToNat,Int.reduceAdd,Int.reduceSub,Int.reduceMul,Nat.reduceAdd,Nat.reduceSub,Nat.reduceMul,Nat.reduceDiv,Nat.reduceMod,Nat.reduceBEq,Nat.reduceLeDiff,d1,d1',rl,d2,d2',d3,d3',p2];exact ⟨fin _ _ s02,.inl ⟨by decide,rfl⟩⟩
 have d3:decide (((twoB b 9:Nat):Int) < ((b.length - 11:Nat):Int)) = false:=decide_eq_false (by omega);have d3':decide (twoB b 9 < b.length - 11) = false:=decide_eq_false k3;rw [if_neg k3] at eE;simp (maxSteps:=1000000) (disch:=first | omega | (simp only [RY] <;> omega) | decide) only [↓RD,RZ,eq_self,Int.reduceToNat,Int.reduceAdd,Int.reduceSub,Int.reduceMul,Nat.reduceAdd,Nat.reduceSub,Nat.reduceMul,Nat.reduceDiv,Nat.reduceMod,Nat.reduceBEq,Nat.reduceLeDiff,d1,d1',rl,d2,d2',d3,d3'];refine zae (znd hr2 (by rw [List.length_drop]; omega)) ?_;rintro v H3 ⟨hv,s3⟩;have n3:=s3.next;have p33:=(s3.same (q + 2) (by omega)).trans p3;have p23:=(s3.same (q + 1) (by omega)).trans p2;have vc3:=hv.by.cells1;have vo3:=hv.by.okc;simp (maxSteps:=1000000) (disch:=first | omega | (simp only [RY] <;> omega) | decide) only [↓RD,RZ,eq_self,Int.reduceToNat,Int.reduceAdd,Int.reduceSub,Int.reduceMul,Nat.reduceAdd,Nat.reduceSub,Nat.reduceMul,Nat.reduceDiv,Nat.reduceMod,Nat.reduceBEq,Nat.reduceLeDiff,p33,vc3,vo3];rw [zb8];have n2':H2.next = q + 3:=by omega
 have a4:AtS [q + 2] H3 (H3.set (q + 2) (some ⟨zac,nC (rawN b) v,none⟩)):=AtS.set _ (by simp) _;have s34:Grow H (H3.set (q + 2) (some ⟨zac,nC (rawN b) v,none⟩)):=(s02.trans s3).set (by omega) _;have p34:(H3.set (q + 2) (some ⟨zac,nC (rawN b) v,none⟩)).get (q + 2) = _:=zaY _ _ _;have p24:(H3.set (q + 2) (some ⟨zac,nC (rawN b) v,none⟩)).get (q + 1) = _:=(zaD _ _ (by omega)).trans p23;have n4:(H3.set (q + 2) (some ⟨zac,nC (rawN b) v,none⟩)).next = H3.next:=rfl;have hv4:=Lc.atS hv.by a4 fun j hj h=>by
  have:=(hv.by.own j hj).1;simp only [List.mem_singleton] at h;omega
 show Ok _ (H3.set (q + 2) (some ⟨zac,nC (rawN b) v,none⟩)) _;generalize Heap.set H3 _ _ = H4 at *;refine zae (zls (x:=rawN b) (bv:=v) hv4 hk) ?_;rintro _ H5 ⟨rfl,s5⟩;have p35:=(s5.same (q + 2) (by omega)).trans p34;have p25:=(s5.same (q + 1) (by omega)).trans p24;have s05:=s34.trans s5;have hv5:=hv4.ext s5;cases hg:zeG (rawN b) with
 | false =>
  rw [if_pos hg] at eE;rw [eE];simp (maxSteps:=1000000) (disch:=first | omega | (simp only [RY] <;> omega) | decide) only [↓RD,RZ,eq_self,Int.reduceToNat,Int.reduceAdd,Int.reduceSub,Int.reduceMul,Nat.reduceAdd,Nat.reduceSub,Nat.reduceMul,Nat.reduceDiv,Nat.reduceMod,Nat.reduceBEq,Nat.reduceLeDiff,p25];exact ⟨fin _ _ s05,.inl ⟨by decide,rfl⟩⟩
 | true =>
  rw [if_neg (by rw [hg]; decide)] at eE;have l7:ldc (some 7) (nC (rawN b) v) 0 = some (.agg (nC (rawN b) v)):=rfl;have hc7:(nC (rawN b) v).length = 7:=rfl;have ok7:(V.agg (nC (rawN b) v)).okc = true:=by simp [nC,V.okc,vo3]
  have sp7:splice [.int .i64 0,.int .i64 0,.int .i64 0,.int .i64 0,.int .i64 0,.int .i64 0,.nils] 0 (nC (rawN b) v) = nC (rawN b) v:=rfl;rw [eE];simp (maxSteps:=1000000) (disch:=first | omega | (simp only [RY] <;> omega) | decide) only [↓RD,RZ,eq_self,Int.reduceToNat,Int.reduceAdd,Int.reduceSub,Int.reduceMul,Nat.reduceAdd,Nat.reduceSub,Nat.reduceMul,Nat.reduceDiv,Nat.reduceMod,Nat.reduceBEq,Nat.reduceLeDiff,p35,l7,p25,zai,hc7,ok7,sp7];refine ⟨fin _ _ s05,.inr ⟨v,rfl,?_⟩⟩;exact (Lc.atS hv5 (AtS.set (S:=[q + 1]) H5 (by simp) _) fun j hj h=>by
   have:=(hv.by.own j hj).1;simp only [List.mem_singleton] at h;omega).low (by omega)
end Go.Ax.SU
/- Dk5 -/
namespace Go.Ax.SU
open Go.Ax
structure Tb where
 u:List Bool
 a:List Int
structure TbO (t:Tb):Prop where
 u8:t.u.length = 8
 a8:t.a.length = 8
def tC (t:Tb):List V:=t.u.map .bool ++ t.a.map (.int .i64)
def Tb.uG (t:Tb) (i:Nat):Bool:=t.u.getD i false
def Tb.aG (t:Tb) (i:Nat):Int:=t.a.getD i 0
def hitS (t:Tb) (a:Int) (i:Nat):Bool:=t.uG i && decide (a = t.aG i)
def zcF (t:Tb) (a:Int):Option Nat:=(List.range 8).find? (hitS t a)
def zeh (t:Tb) (i:Nat):Bool:=if t.uG i then decide (zcF t (t.aG i) = some i) && (decide (0 ≤ t.aG i) && decide (t.aG i ≤ 63)) else decide (t.aG i = 0)
def zc6 (t:Tb):Bool:=(List.range 8).all (zeh t)
def fv (o:Option Nat):V:=match o with | some j=>.tup [.int .i64 (j:Nat),.bool true] | none=>.tup [.int .i64 0,.bool false]
theorem zbU {t:Tb} (h:TbO t):(tC t).length = 16:=by unfold tC; rw [List.length_append,List.length_map,List.length_map,h.u8,h.a8]
theorem tC_u {t:Tb} (h:TbO t) {i:Nat} (hi:i < 8):(tC t)[i]? = some (.bool (t.uG i)):=by
 unfold tC Tb.uG;rw [List.getElem?_append_left (by rw [List.length_map,h.u8]; exact hi),List.getElem?_map,List.getElem?_eq_getElem (by rw [h.u8]; exact hi),List.getD_eq_getElem?_getD,List.getElem?_eq_getElem (by rw [h.u8]; exact hi)];rfl
theorem tC_a {t:Tb} (h:TbO t):ldc (some 8) (tC t) 8 = some (.agg (t.a.map (.int .i64))):=by
 have:=zbU h;simp only [ldc];rw [if_pos (by omega)];unfold tC;rw [List.drop_left' (by rw [List.length_map,h.u8]),List.take_of_length_le (by rw [List.length_map,h.a8]; exact Nat.le_refl _)]
theorem zjy {t:Tb} (h:TbO t):ldc (some 16) (tC t) 0 = some (.agg (tC t)):=by
 have:=zbU h;simp only [ldc];rw [if_pos (by omega),List.drop_zero,List.take_of_length_le (by omega)]
theorem aG_at {t:Tb} (h:TbO t) {i:Nat} (hi:i < 8):Ax.index 8 1 none (.agg (t.a.map (.int .i64))) (.int .i64 (i:Nat)) = some (.int .i64 (t.aG i)):=by
 simp only [Ax.index];rw [if_pos (by omega),Int.toNat_natCast,Nat.mul_one];simp only [ldc];rw [List.getElem?_map,List.getElem?_eq_getElem (by rw [h.a8]; exact hi)];unfold Tb.aG;rw [List.getD_eq_getElem?_getD,List.getElem?_eq_getElem (by rw [h.a8]; exact hi)];rfl
theorem ia8 {q i:Nat} (hi:i < 8) {k:IntKind}:Ax.iaddr (some 8) 1 (.ptr q 0) (.int k (i:Nat)) = some (.ptr q i):=by
 simp only [Ax.iaddr];rw [if_pos (by omega),Int.toNat_natCast,Nat.mul_one,Nat.zero_add]
theorem zkY (t:Tb):(V.agg (tC t)).okc = true:=by
 simp [V.okc,tC]
theorem zdt {p:Nat → Bool} {n i:Nat} (hi:i < n) (hp:p i = true) (hno:∀ k,k < i → p k = false):(List.range n).find? p = some i:=by
 rw [List.find?_range_eq_some];exact ⟨hp,by simpa using hi,fun k hk=>by simpa using hno k hk⟩
theorem zed {p:Nat → Bool} {n:Nat} (hno:∀ k,k < n → p k = false):(List.range n).find? p = none:=by
 rw [List.find?_eq_none];intro x hx;rw [hno x (List.mem_range.1 hx)];decide
theorem ziM {H:Heap} {t:Tb} (ht:TbO t) (a:Int):Ok (sem T zb0 [.agg (tC t),.int .i64 a]) H fun r H'=>r = fv (zcF t a) ∧ Grow H H':=by
 refine zkb ?_;unfold zhv uS uF uO uc;refine zan (zaH (zkY t) ?_);rw [zai];have s0:=Grow.new H ⟨zaf,tC t,none⟩;have g0:(H.new ⟨zaf,tC t,none⟩).get H.next = some ⟨zaf,tC t,none⟩:=zad _ _;generalize hq:H.next = q at *;generalize H.new _ = H0 at *;have hA:=tC_a ht;simp (disch:=omega) only [↓RD,RZ,g0,hA];refine zaL (Q:=fun r H'=>H' = H0 ∧ ((r = .ex 0 [] ∧ zcF t a = none) ∨ ∃ i:Nat,r = .ret [.int .i64 (i:Nat),.bool true] ∧ zcF t a = some i)) ?_ ?_
 ·refine zbM (fun j L H'=>L = [.int .i64 (j:Nat)] ∧ H' = H0 ∧ ∀ k,k < j → hitS t a k = false) 8 ?_ ?_ ?_
  ·exact ⟨rfl,rfl,fun k hk=>by omega⟩
  ·rintro j _ H1 hj ⟨rfl,rfl,hno⟩;have d1:decide (((j:Nat):Int) < 8) = true:=decide_eq_true (by omega);have d1':decide (j < 8) = true:=decide_eq_true hj;have hx:=aG_at ht hj;have hu:=tC_u ht hj;have hi:=fun {k}=>@ia8 q j hj k;have w1:IntKind.i64.wrap (((j:Nat):Int) + 1) = ((j + 1:Nat):Int):=by rw [wrap_i64 (by omega) (by omega)]; omega
   have step:hitS t a j = false → ∀ k,k < j + 1 → hitS t a k = false:=fun h k hk=>by
    by_cases hkk:k < j
    ·exact hno k hkk
    ·have:k = j:=by omega
     subst this;exact h
   unfold zd5 uL uF uB uIM uG uH uc ug;cases hb:t.uG j with
   | false =>
    rw [hb] at hu;simp (disch:=omega) only [↓RD,RZ,d1,d1',hx,hi,g0,hu,w1];exact step (by unfold hitS; rw [hb]; rfl)
   | true =>
    rw [hb] at hu;by_cases ha:a = t.aG j
    ·have b2:(a == t.aG j) = true:=by simpa using ha
     simp (disch:=omega) only [↓RD,RZ,d1,d1',hx,hi,g0,hu,b2];exact .inr ⟨j,rfl,zdt hj (by unfold hitS; rw [hb,decide_eq_true ha]; rfl) hno⟩
    ·have b2:(a == t.aG j) = false:=by simpa using ha
     simp (disch:=omega) only [↓RD,RZ,d1,d1',hx,hi,g0,hu,b2,w1];exact step (by unfold hitS; rw [hb,decide_eq_false ha]; rfl)
  ·rintro _ H1 ⟨rfl,rfl,hno⟩;unfold zd5 uL uF uB uIM uG uH uc ug;simp (disch:=omega) only [↓RD,RZ];exact .inl (zed hno)
 ·rintro _ H1 ⟨rfl,⟨rfl,h⟩ | ⟨i,rfl,h⟩⟩
  ·rw [h]; simp (disch:=omega) only [↓RD,RZ]; exact ⟨rfl,s0⟩
  ·rw [h]; simp (disch:=omega) only [↓RD,RZ]; exact ⟨rfl,s0⟩
end Go.Ax.SU
/- Dk6 -/
namespace Go.Ax.SU
open Go.Ax
theorem zlZ {H:Heap} (x:Int):Ok (sem T zcv [.int .i64 x]) H fun r H'=>r = .bool (decide (0 ≤ x) && decide (x ≤ 63)) ∧ H' = H:=by
 refine zkc ?_;unfold zhw uL uB uG uH uc;by_cases h:0 ≤ x
 ·have d:decide ((0:Int) ≤ x) = true:=decide_eq_true h;simp (disch:=omega) only [↓RD,RZ,d,Bool.true_and]
 ·have d:decide ((0:Int) ≤ x) = false:=decide_eq_false h;simp (disch:=omega) only [↓RD,RZ,d,Bool.false_and]
theorem zgO {H:Heap} (x:Int):Ok (sem T zc4 [.int .i64 x]) H fun r H'=>r = .bool (decide (0 ≤ x) && decide (x ≤ 63)) ∧ H' = H:=by
 refine zlg ?_;unfold ziQ uL uB uG uH uc;by_cases h:0 ≤ x
 ·have d:decide ((0:Int) ≤ x) = true:=decide_eq_true h;simp (disch:=omega) only [↓RD,RZ,d,Bool.true_and]
 ·have d:decide ((0:Int) ≤ x) = false:=decide_eq_false h;simp (disch:=omega) only [↓RD,RZ,d,Bool.false_and]
theorem zpA {t:Tb} {i:Nat} (hi:i < 8) (hu:t.uG i = true):∃ j,zcF t (t.aG i) = some j:=by
 cases h:zcF t (t.aG i) with
 | some j=>exact ⟨j,rfl⟩
 | none =>
  have:=(List.find?_eq_none.1 h) i (List.mem_range.2 hi);exact absurd (show hitS t (t.aG i) i = true by unfold hitS; rw [hu,decide_eq_true rfl]; rfl) this
theorem zgo {H:Heap} {t:Tb} (ht:TbO t):Ok (sem T zbJ [.agg (tC t)]) H fun r H'=>r = .bool (zc6 t) ∧ Grow H H':=by
 refine zkf ?_;unfold zhz uS uF uO uc;refine zan (zaH (zkY t) ?_);rw [zai];have s0:=Grow.new H ⟨zaf,tC t,none⟩;have g0:(H.new ⟨zaf,tC t,none⟩).get H.next = some ⟨zaf,tC t,none⟩:=zad _ _;have n0:(H.new ⟨zaf,tC t,none⟩).next = H.next + 1:=zag _ _;generalize hq:H.next = q at *;generalize H.new _ = H0 at *;have hA:=tC_a ht;have hAll:=zjy ht;simp (disch:=omega) only [↓RD,RZ,g0,hA];refine zaL (Q:=fun r H'=>Grow H0 H' ∧ ((r = .ex 0 [] ∧ zc6 t = true) ∨ (r = .ret [.bool false] ∧ zc6 t = false))) ?_ ?_
 ·refine zbM (fun j L H'=>L = [.int .i64 (j:Nat)] ∧ Grow H0 H' ∧ ∀ k,k < j → zeh t k = true) 8 ?_ ?_ ?_
  ·exact ⟨rfl,Grow.refl _,fun k hk=>by omega⟩
  ·rintro j _ H1 hj ⟨rfl,s1,hyes⟩;have n1:=s1.next;have g1:=(s1.same q (by omega)).trans g0;have d1:decide (((j:Nat):Int) < 8) = true:=decide_eq_true (by omega);have d1':decide (j < 8) = true:=decide_eq_true hj;have hx:=aG_at ht hj;have hu:=tC_u ht hj;have hi:=fun {k}=>@ia8 q j hj k;have w1:IntKind.i64.wrap (((j:Nat):Int) + 1) = ((j + 1:Nat):Int):=by rw [wrap_i64 (by omega) (by omega)]; omega
   have step:zeh t j = true → ∀ k,k < j + 1 → zeh t k = true:=fun h k hk=>by
    by_cases hkk:k < j
    ·exact hyes k hkk
    ·have:k = j:=by omega
     subst this;exact h
   have bad:zeh t j = false → zc6 t = false:=fun h=>by
    cases hh:zc6 t with
    | false=>rfl
    | true =>
     have:=List.all_eq_true.1 hh j (List.mem_range.2 hj);rw [h] at this;cases this
   unfold zd7 uL uS uF uE uB uIM uG uH uc ug;cases hb:t.uG j with
   | false =>
    rw [hb] at hu;by_cases ha:t.aG j = 0
    ·have b2:(t.aG j == 0) = true:=by simpa using ha
     simp (disch:=omega) only [↓RD,RZ,d1,d1',hx,hi,g1,hu,b2,Bool.not_true,w1];exact ⟨s1,step (by unfold zeh; rw [hb]; simpa using ha)⟩
    ·have b2:(t.aG j == 0) = false:=by simpa using ha
     simp (disch:=omega) only [↓RD,RZ,d1,d1',hx,hi,g1,hu,b2,Bool.not_false];exact ⟨s1,.inr (bad (by unfold zeh; rw [hb]; simpa using ha))⟩
   | true =>
    rw [hb] at hu;simp (disch:=omega) only [↓RD,RZ,d1,d1',hx,hi,g1,hu,hAll];refine zae (ziM ht (t.aG j)) ?_;rintro _ H2 ⟨rfl,s2⟩;obtain ⟨i,hfi⟩:=zpA hj hb;have ea:zeh t j = (decide (i = j) && (decide (0 ≤ t.aG j) && decide (t.aG j ≤ 63))):=by
     unfold zeh;rw [if_pos hb,hfi];congr 1;exact decide_eq_decide.2 (by simp)
    have w2:=@zbi _ _ _ _ (@zlZ H2 (t.aG j));rw [hfi];unfold fv;by_cases hij:i = j
    ·have b3:(((i:Nat):Int) == ((j:Nat):Int)) = true:=by rw [hij]; simp
     have b3':(i == j) = true:=by simpa using hij
     rw [decide_eq_true hij,Bool.true_and] at ea;generalize (decide (0 ≤ t.aG j) && decide (t.aG j ≤ 63)) = w at *;cases w with
     | true =>
      simp (disch:=omega) only [↓RD,RZ,b3,b3',Bool.not_true,w2,w1];exact ⟨s1.trans s2,step ea⟩
     | false =>
      simp (disch:=omega) only [↓RD,RZ,b3,b3',Bool.not_true,w2];exact ⟨s1.trans s2,.inr (bad ea)⟩
    ·have b3:(((i:Nat):Int) == ((j:Nat):Int)) = false:=by simp; omega
     have b3':(i == j) = false:=by simpa using hij
     rw [decide_eq_false hij,Bool.false_and] at ea;simp (disch:=omega) only [↓RD,RZ,b3,b3',Bool.not_false];exact ⟨s1.trans s2,.inr (bad ea)⟩
  ·rintro _ H1 ⟨rfl,s1,hyes⟩;unfold zd7 uL uS uF uE uB uIM uG uH uc ug;simp (disch:=omega) only [↓RD,RZ];exact ⟨s1,.inl (List.all_eq_true.2 fun k hk=>hyes k (List.mem_range.1 hk))⟩
 ·rintro _ H1 ⟨s1,⟨rfl,h⟩ | ⟨rfl,h⟩⟩
  ·rw [h]; simp (disch:=omega) only [↓RD,RZ]; exact s0.trans s1
  ·rw [h]; simp (disch:=omega) only [↓RD,RZ]; exact s0.trans s1
theorem zl3 {H:Heap} {t:Tb} (ht:TbO t) (a:Int):Ok (sem T zcx [.agg (tC t),.int .i64 a]) H fun r H'=>r = fv (if zc6 t then zcF t a else none) ∧ Grow H H':=by
 refine zkg ?_;unfold zhA uL uS uE uO uc;refine zan (zaH (zkY t) ?_);rw [zai];have s0:=Grow.new H ⟨zaf,tC t,none⟩;have g0:(H.new ⟨zaf,tC t,none⟩).get H.next = some ⟨zaf,tC t,none⟩:=zad _ _;have n0:(H.new ⟨zaf,tC t,none⟩).next = H.next + 1:=zag _ _;generalize hq:H.next = q at *;generalize H.new _ = H0 at *;have hAll:=zjy ht;simp (disch:=omega) only [↓RD,RZ,g0,hAll];refine zae (zgo ht) ?_;rintro _ H1 ⟨rfl,s1⟩;have g1:=(s1.same q (by omega)).trans g0;cases hg:zc6 t with
 | false=>simp (disch:=omega) only [↓RD,RZ]; exact ⟨rfl,s0.trans s1⟩
 | true =>
  simp (disch:=omega) only [↓RD,RZ,g1,hAll];refine zae (ziM ht a) ?_;rintro _ H2 ⟨rfl,s2⟩;unfold fv;cases zcF t a with
  | none=>simp (disch:=omega) only [↓RD,RZ]; exact (s0.trans s1).trans s2
  | some j=>simp (disch:=omega) only [↓RD,RZ]; exact (s0.trans s1).trans s2
end Go.Ax.SU
/- Dk7 -/
namespace Go.Ax.SU
open Go.Ax
abbrev tyDk:=zhm
structure DkH (H:Heap) (d:Nat) (D:List V) (t:Nat → Tb):Prop where
 blk:H.get d = some ⟨tyDk,D,none⟩
 len:D.length = 1535
 tb:∀ i,i < 4 → ldc (some 16) D (i * 367) = some (.agg (tC (t i))) ∧ TbO (t i)
theorem DkH.to {H H':Heap} {d:Nat} {D:List V} {t:Nat → Tb} (h:DkH H d D t) (e:H'.get d = H.get d):DkH H' d D t:=⟨e.trans h.blk,h.len,h.tb⟩
def inS (t:Tb) (a:Int):Option Nat:=if zc6 t then zcF t a else none
def zea (t:Nat → Tb) (a:Int):Option (Nat × Nat):=(List.range 4).findSome? fun i=>(inS (t i) a).map fun s=>(i,s)
def wv (d:Nat) (o:Option (Nat × Nat)):V:=match o with | some (i,s)=>.tup [.ptr d (i * 367),.int .i64 (s:Nat),.bool true] | none=>.tup [.nilp,.int .i64 0,.bool false]
theorem zgP {t:Nat → Tb} {a:Int} (h:∀ k,k < 4 → inS (t k) a = none):zea t a = none:=by
 unfold zea;rw [List.findSome?_eq_none_iff];intro x hx;rw [h x (List.mem_range.1 hx)];rfl
theorem zjw {t:Nat → Tb} {a:Int} {i s:Nat} (hi:i < 4) (hs:inS (t i) a = some s) (h:∀ k,k < i → inS (t k) a = none):zea t a = some (i,s):=by
 unfold zea;have e:List.range 4 = List.range i ++ i :: (List.range' (i + 1) (3 - i)):=by
  have:i = 0 ∨ i = 1 ∨ i = 2 ∨ i = 3:=by omega
  rcases this with rfl | rfl | rfl | rfl <;> rfl
 rw [e,List.findSome?_append];have h1:(List.range i).findSome? (fun i=>(inS (t i) a).map fun s=>(i,s)) = none:=by
  rw [List.findSome?_eq_none_iff];intro x hx;rw [h x (List.mem_range.1 hx)];rfl
 rw [h1,List.findSome?_cons,hs];rfl
theorem zj0 {H:Heap} {d:Nat} {D:List V} {t:Nat → Tb} (hd:DkH H d D t) (hdl:d < H.next) (a:Int):Ok (sem T zbp [.ptr d 0,.int .i64 a]) H fun r H'=>r = wv d (zea t a) ∧ Grow H H':=by
 refine zgb ?_;unfold zeo uc;simp (disch:=omega) only [↓RD,RZ];refine zaL (Q:=fun r H'=>Grow H H' ∧ ((r = .ex 0 [] ∧ zea t a = none) ∨ ∃ i s:Nat,r = .ret [.ptr d (i * 367),.int .i64 (s:Nat),.bool true] ∧ zea t a = some (i,s))) ?_ ?_
 ·refine zbM (fun j L H'=>L = [.int .i64 (j:Nat)] ∧ Grow H H' ∧ ∀ k,k < j → inS (t k) a = none) 4 ?_ ?_ ?_
  ·exact ⟨rfl,Grow.refl _,fun k hk=>by omega⟩
  ·rintro j _ H1 hj ⟨rfl,s1,hno⟩;have n1:=s1.next;have g1:=(s1.same d hdl).trans hd.blk;obtain ⟨hl,ht⟩:=hd.tb j hj;have d1:decide (((j:Nat):Int) < 4) = true:=decide_eq_true (by omega);have d1':decide (j < 4) = true:=decide_eq_true hj;have hi:∀ {k:IntKind},Ax.iaddr (some 4) 367 (.ptr d 0) (.int k (j:Nat)) = some (.ptr d (j * 367)):=fun {k}=>by
    simp only [Ax.iaddr];rw [if_pos (by omega),Int.toNat_natCast,Nat.zero_add]
   have w1:IntKind.i64.wrap (((j:Nat):Int) + 1) = ((j + 1:Nat):Int):=by rw [wrap_i64 (by omega) (by omega)]; omega
   unfold zci uS uF uNF uE uB uI uc ug;simp (disch:=omega) only [↓RD,RZ,d1,d1',hi,g1,hl];refine zae (zl3 ht a) ?_;rintro _ H2 ⟨rfl,s2⟩;have ei:(if zc6 (t j) then zcF (t j) a else none) = inS (t j) a:=rfl;rw [ei];unfold fv;cases hf:inS (t j) a with
   | none =>
    simp (disch:=omega) only [↓RD,RZ,w1];refine ⟨s1.trans s2,fun k hk=>?_⟩;by_cases hkk:k < j
    ·exact hno k hkk
    ·have:k = j:=by omega
     subst this;exact hf
   | some s =>
    simp (disch:=omega) only [↓RD,RZ,hi];exact ⟨s1.trans s2,.inr ⟨j,s,rfl,zjw hj hf hno⟩⟩
  ·rintro _ H1 ⟨rfl,s1,hno⟩;unfold zci uS uF uNF uE uB uI uc ug;simp (disch:=omega) only [↓RD,RZ];exact ⟨s1,.inl (zgP hno)⟩
 ·rintro _ H1 ⟨s1,⟨rfl,h⟩ | ⟨i,s,rfl,h⟩⟩
  ·rw [h]; simp (disch:=omega) only [↓RD,RZ]; exact ⟨rfl,s1⟩
  ·rw [h]; simp (disch:=omega) only [↓RD,RZ]; exact ⟨rfl,s1⟩
end Go.Ax.SU
/- Dk8 -/
namespace Go.Ax.SU
open Go.Ax
theorem flat_at {α:Type} {k:Nat}:∀ (es:List (List α)),(∀ x ∈ es,x.length = k) → ∀ (i:Nat) (x:List α),es[i]? = some x → (es.flatten.drop (i * k)).take k = x ∧ i * k + k ≤ es.flatten.length:=by
 intro es
 induction es with
 | nil=>intro _ i x h; simp at h
 | cons y es ih =>
  intro h i x hx;have hy:=h y List.mem_cons_self;cases i with
  | zero =>
   simp only [List.getElem?_cons_zero,Option.some.injEq] at hx;subst hx;rw [List.flatten_cons,Nat.zero_mul,List.drop_zero,List.take_left' hy,List.length_append];exact ⟨rfl,by omega⟩
  | succ i =>
   obtain ⟨h1,h2⟩:=ih (fun z hz=>h z (List.mem_cons_of_mem _ hz)) i x (by simpa using hx);have e:(i + 1) * k = k + i * k:=by rw [Nat.succ_mul]; omega
   rw [List.flatten_cons,List.length_append,e,← List.drop_drop,List.drop_left' hy];exact ⟨h1,by omega⟩
abbrev tyPo:=zcX
abbrev tyOu:=zbv
structure Ot where
 to':Int
 kind:Int
 b:List Nat
def oC (e:V × Ot):List V:=[.int .i64 e.2.to',.int .i64 e.2.kind,e.1]
structure Qm (lo:Nat) (H:Heap) (p:Nat) (es:List (V × Ot)):Prop where
 low:p < lo
 top:lo ≤ H.next
 le:es.length ≤ 32
 mem:∃ lv,H.get p = some ⟨tyPo,[.int .i64 32,lv],none⟩ ∧ App tyOu 3 lo H lv ((es.map oC).flatten) es.length ∧ ∀ e ∈ es,∀ i,e.1.pid = some i → lv.pid ≠ some i
 each:∀ e ∈ es,By lo H e.1 e.2.b
structure FrL (lo p:Nat) (H H':Heap):Prop where
 next:H.next ≤ H'.next
 same:∀ i,i < lo → i ≠ p → H'.get i = H.get i
theorem FrL.refl (lo p:Nat) (H:Heap):FrL lo p H H:=⟨Nat.le_refl _,fun _ _ _=>rfl⟩
theorem FrL.trans {lo p:Nat} {H H1 H2:Heap} (h:FrL lo p H H1) (g:FrL lo p H1 H2):FrL lo p H H2:=⟨Nat.le_trans h.next g.next,fun i hi hp=>(g.same i hi hp).trans (h.same i hi hp)⟩
theorem _root_.Go.Ax.Grow.frL {H H':Heap} (h:Grow H H') {lo:Nat} (p:Nat) (hl:lo ≤ H.next):FrL lo p H H':=⟨h.next,fun i hi _=>h.same i (by omega)⟩
theorem _root_.Go.Ax.App.atS {ty e lo n:Nat} {S:List Nat} {H H':Heap} {v:V} {cells:List V} (h:App ty e lo H v cells n) (s:AtS S H H') (hS:∀ i,v.pid = some i → i ∉ S):App ty e lo H' v cells n:=by
 cases h with
 | opn h ho=>exact .opn (h.to fun i hi=>s.same i (ho i hi).2 (hS i hi)) fun i hi=>⟨(ho i hi).1,Nat.lt_of_lt_of_le (ho i hi).2 s.next⟩
 | lit h h0 h1=>exact .lit ((s.same _ h1 (hS _ rfl)).trans h) h0 (Nat.lt_of_lt_of_le h1 s.next)
theorem _root_.Go.Ax.Step.atS {H H':Heap} {F F':List Nat} (h:Step H H' F F'):AtS F H H':=⟨h.next,h.same⟩
theorem Qm.grow {lo p:Nat} {H H':Heap} {es:List (V × Ot)} (h:Qm lo H p es) (s:Grow H H'):Qm lo H' p es:=by
 obtain ⟨lv,h1,h2,h3⟩:=h.mem;have:=h.low;have:=h.top;exact ⟨h.low,Nat.le_trans h.top s.next,h.le,⟨lv,(s.same p (by omega)).trans h1,h2.atS (Grow.atS s []) (by simp),h3⟩,fun e he=>(h.each e he).ext s⟩
theorem Qm.atS {lo p:Nat} {S:List Nat} {H H':Heap} {es:List (V × Ot)} (h:Qm lo H p es) (s:AtS S H H') (hS:∀ i ∈ S,i < lo ∧ i ≠ p):Qm lo H' p es:=by
 obtain ⟨lv,h1,h2,h3⟩:=h.mem;have h4:=h.low;have h5:=h.top;refine ⟨h.low,Nat.le_trans h.top s.next,h.le,⟨lv,(s.same p (by omega) fun e=>(hS p e).2 rfl).trans h1,h2.atS s fun i hi e=>?_,h3⟩,fun e he=>Lc.atS (h.each e he) s fun i hi e'=>?_⟩
 ·have:=(h2.lc.own i hi).1;have:=(hS i e).1;omega
 ·have:=((h.each e he).own i hi).1;have:=(hS i e').1;omega
end Go.Ax.SU
/- Dk9 -/
namespace Go.Ax.SU
open Go.Ax
theorem ok_aadd {β:Type} {H:Heap} {id off:Nat} {b:Blk} {n j:Int} {f:V → M β} {Q:β → Heap → Prop} (hb:H.get id = some b) (hc:b.cells[off]? = some (.int .i64 n))
  (k:Ok (f (.int .i64 (IntKind.i64.wrap (n + j)))) (H.set id (some { b with cells:=splice b.cells off [.int .i64 (IntKind.i64.wrap (n + j))] })) Q):Ok ((zeC .i64 (.ptr id off) (.int .i64 j)).bind f) H Q:=by
 refine zan ⟨_,_,?_,k⟩;simp only [zeC,hb,Option.bind_some,hc,if_true]
theorem ok_aload {β:Type} {H:Heap} {id off:Nat} {b:Blk} {n:Int} {f:V → M β} {Q:β → Heap → Prop} (hb:H.get id = some b) (hc:b.cells[off]? = some (.int .i64 n)) (k:Ok (f (.int .i64 n)) H Q):Ok ((zdk .i64 (.ptr id off)).bind f) H Q:=by
 refine zan ⟨_,_,?_,k⟩;simp only [zdk,zam,hb,Option.bind_some,ldc,hc,Option.map_some,if_true]
def c64 (n:Nat):V:=.int .i64 (n:Nat)
structure Cm (H:Heap) (C cs:Nat) (ns:List Nat):Prop where
 hd:∃ cap,H.get C = some ⟨zdV,[.sl cs 0 11 cap],none⟩
 bd:∃ o,H.get cs = some ⟨zbT,ns.map c64,o⟩
 len:ns.length = 11
 small:∀ n ∈ ns,n < 4611686018427387904
theorem One_ok {H:Heap} {C cs i:Nat} {ns:List Nat} (h:Cm H C cs ns) (hne:C ≠ cs) (hi:i < 11) (hs:ns.getD i 0 + 1 < 4611686018427387904):Ok (sem T zaR [.ptr C 0,.int .i64 (i:Nat)]) H fun r H'=>r = .tup [] ∧ AtS [cs] H H' ∧ Cm H' C cs (ns.set i (ns.getD i 0 + 1)):=by
 refine zf9 ?_;unfold zem uL uNFM uB uI uG uH uc;obtain ⟨cap,h1⟩:=h.hd;obtain ⟨o,h2⟩:=h.bd;have hl:=h.len;have d:decide ((0:Int) ≤ ((i:Nat):Int)) = true:=decide_eq_true (by omega);have d2:decide (((i:Nat):Int) < 11) = true:=decide_eq_true (by omega);have d2':decide (i < 11) = true:=decide_eq_true hi;have hv:Ax.vlen (.sl cs 0 11 cap) = some (.int .i64 11):=rfl;have hia:∀ {k:IntKind},Ax.iaddr none 1 (.sl cs 0 11 cap) (.int k (i:Nat)) = some (.ptr cs i):=fun {k}=>by rw [zeD (by omega) (by omega),Int.toNat_natCast,Nat.mul_one,Nat.zero_add]
 have hg:ns[i]? = some (ns.getD i 0):=by rw [List.getD_eq_getElem?_getD,List.getElem?_eq_getElem (by omega)]; rfl
 have hc:(ns.map c64)[i]? = some (.int .i64 (ns.getD i 0:Nat)):=by rw [List.getElem?_map,hg]; rfl
 have w:IntKind.i64.wrap (((ns.getD i 0:Nat):Int) + 1) = ((ns.getD i 0 + 1:Nat):Int):=by rw [wrap_i64 (by omega) (by omega)]; omega
 simp (disch:=omega) only [↓RD,RZ,d,h1,hv,d2,d2',hia];rw [zb8];refine zae (P:=fun r H'=>H' = H.set cs (some ⟨zbT,(ns.set i (ns.getD i 0 + 1)).map c64,o⟩)) ?_ ?_
 ·refine zef ?_;unfold zcC uNF;refine zap rfl ?_;refine zap rfl ?_;refine ok_aadd h2 hc ?_;rw [w];have e:splice (ns.map c64) (i + 0) [.int .i64 (ns.getD i 0 + 1:Nat)] = (ns.set i (ns.getD i 0 + 1)).map c64:=by
   unfold splice;rw [List.map_set,List.set_eq_take_append_cons_drop,if_pos (by rw [List.length_map]; omega),List.append_assoc];rfl
  dsimp only;rw [e];exact ze7 ⟨_,rfl,rfl⟩
 ·rintro _ _ rfl;simp (disch:=omega) only [↓RD,RZ];have a1:AtS [cs] H (H.set cs (some ⟨zbT,(ns.set i (ns.getD i 0 + 1)).map c64,o⟩)):=AtS.set _ (by simp) _;refine ⟨rfl,a1,⟨⟨cap,(zaD _ _ hne).trans h1⟩,⟨o,zaY _ _ _⟩,by rw [List.length_set]; exact hl,fun n hn=>?_⟩⟩;rcases List.mem_or_eq_of_mem_set hn with hn | rfl
  ·exact h.small n hn
  ·exact hs
theorem Of_ok {H:Heap} {C cs i:Nat} {ns:List Nat} (h:Cm H C cs ns) (hi:i < 11):Ok (sem T zb4 [.ptr C 0,.int .i64 (i:Nat)]) H fun r H'=>r = .int .i64 (ns.getD i 0:Nat) ∧ H' = H:=by
 refine zgV ?_;unfold zeT uL uNFM uB uI uG uH uc;obtain ⟨cap,h1⟩:=h.hd;obtain ⟨o,h2⟩:=h.bd;have hl:=h.len;have d:decide (((i:Nat):Int) < 0) = false:=decide_eq_false (by omega);have d2:decide ((11:Int) ≤ ((i:Nat):Int)) = false:=decide_eq_false (by omega);have d2':decide (11 ≤ i) = false:=decide_eq_false (by omega);have hv:Ax.vlen (.sl cs 0 11 cap) = some (.int .i64 11):=rfl;have hia:∀ {k:IntKind},Ax.iaddr none 1 (.sl cs 0 11 cap) (.int k (i:Nat)) = some (.ptr cs i):=fun {k}=>by rw [zeD (by omega) (by omega),Int.toNat_natCast,Nat.mul_one,Nat.zero_add]
 have hg:ns[i]? = some (ns.getD i 0):=by rw [List.getD_eq_getElem?_getD,List.getElem?_eq_getElem (by omega)]; rfl
 have hc:(ns.map c64)[i]? = some (.int .i64 (ns.getD i 0:Nat)):=by rw [List.getElem?_map,hg]; rfl
 simp (disch:=omega) only [↓RD,RZ,d,h1,hv,d2,d2',hia];rw [zb8];refine zae (P:=fun r H'=>r = V.int .i64 (ns.getD i 0:Nat) ∧ H' = H) ?_ ?_
 ·refine zdY ?_;unfold zcm uNF;refine zap rfl ?_;refine zap rfl ?_;refine ok_aload h2 hc ?_;exact ze7 ⟨_,rfl,rfl,rfl⟩
 ·rintro _ _ ⟨rfl,rfl⟩;simp (disch:=omega) only [↓RD,RZ]
structure DS (lo:Nat) (H:Heap) (d p C cs a:Nat) (D:List V) (t:Nat → Tb) (es:List (V × Ot)) (ns:List Nat):Prop where
 dk:DkH H d D t
 cm:Cm H C cs ns
 qm:Qm lo H p es
 dl:d < lo
 Cl:C < lo
 cl:cs < lo
 dp:d ≠ p
 Cp:C ≠ p
 cp:cs ≠ p
 dc:d ≠ cs
 Cc:C ≠ cs
 a64:a < 64
 po:D[1470 + a]? = some (.ptr p 0)
 co:D[1534]? = some (.ptr C 0)
theorem DS.grow {lo:Nat} {H H':Heap} {d p C cs a:Nat} {D:List V} {t:Nat → Tb} {es:List (V × Ot)} {ns:List Nat} (h:DS lo H d p C cs a D t es ns) (s:Grow H H'):DS lo H' d p C cs a D t es ns:=by
 have h1:=h.qm.top;have h2:=h.dl;have h3:=h.Cl;have h4:=h.cl;obtain ⟨cap,g1⟩:=h.cm.hd;obtain ⟨o,g2⟩:=h.cm.bd;exact ⟨h.dk.to (s.same d (by omega)),⟨⟨cap,(s.same C (by omega)).trans g1⟩,⟨o,(s.same cs (by omega)).trans g2⟩,h.cm.len,h.cm.small⟩,h.qm.grow s,h.dl,h.Cl,h.cl,h.dp,h.Cp,h.cp,h.dc,h.Cc,h.a64,h.po,h.co⟩
theorem DS.one {lo:Nat} {H H':Heap} {d p C cs a:Nat} {D:List V} {t:Nat → Tb} {es:List (V × Ot)} {ns ns':List Nat} (h:DS lo H d p C cs a D t es ns) (s:AtS [cs] H H') (hc:Cm H' C cs ns'):DS lo H' d p C cs a D t es ns':=by
 have h1:=h.qm.top;have h2:=h.dl;exact ⟨h.dk.to (s.same d (by omega) (by simp; exact h.dc)),hc,h.qm.atS s (fun i hi=>by simp only [List.mem_singleton] at hi; subst hi; exact ⟨h.cl,h.cp⟩),h.dl,h.Cl,h.cl,h.dp,h.Cp,h.cp,h.dc,h.Cc,h.a64,h.po,h.co⟩
theorem DS.post {lo:Nat} {H H':Heap} {d p C cs a:Nat} {D:List V} {t:Nat → Tb} {es es':List (V × Ot)} {ns:List Nat} (h:DS lo H d p C cs a D t es ns) (s:FrL lo p H H') (hq:Qm lo H' p es'):DS lo H' d p C cs a D t es' ns:=by
 obtain ⟨cap,g1⟩:=h.cm.hd;obtain ⟨o,g2⟩:=h.cm.bd;exact ⟨h.dk.to (s.same d h.dl h.dp),⟨⟨cap,(s.same C h.Cl h.Cp).trans g1⟩,⟨o,(s.same cs h.cl h.cp).trans g2⟩,h.cm.len,h.cm.small⟩,hq,h.dl,h.Cl,h.cl,h.dp,h.Cp,h.cp,h.dc,h.Cc,h.a64,h.po,h.co⟩
def zj4 (es:List Ot) (o:Ot):List Ot:=if es.length < 32 then es ++ [o] else es
def zj3 (es:List Ot) (ns:List Nat):List Nat:=if es.length < 32 then ns else ns.set 10 (ns.getD 10 0 + 1)
end Go.Ax.SU
/- Dk10 -/
namespace Go.Ax.SU
open Go.Ax
def sayE (es:List Ot) (a:Nat) (x:Nt):List Ot:=if zeG x then zj4 es ⟨(a:Nat),2,zaE x⟩ else es
def sayN (es:List Ot) (ns:List Nat) (x:Nt):List Nat:=if zeG x then zj3 es ns else ns
theorem by2_len (l:List Nat):(l.flatMap by2).length = 2 * l.length:=by
 induction l with
 | nil=>rfl
 | cons a l ih=>rw [List.flatMap_cons,List.length_append,ih,List.length_cons]; simp [by2]; omega
theorem zdu (x:Nt):(zaE x).length = 11 + x.b.length:=by
 unfold zaE;rw [List.length_append,List.length_append,by2_len];rfl
def noX (e k:Int):Nt:=⟨18,0,0,0,e,k,[]⟩
end Go.Ax.SU
/- Dk11 -/
namespace Go.Ax.SU
open Go.Ax
theorem AtS.setn' {S:List Nat} {H H':Heap} (h:AtS S H H') {q:Nat} (hq:H.next ≤ q) (b:Option Blk):AtS S H (H'.set q b) :=
 ⟨by rw [zbR]; exact h.next,fun i hi hs=>by rw [zaD _ _ (by omega)]; exact h.same i hi hs⟩
theorem zpy {es:List (V × Ot)} {e:V × Ot} {l:List (V × Ot)} (h:es = e :: l):(((es.map oC).flatten).drop ((0:Int).toNat * 3)).take 3 = oC e:=by
 subst h;rfl
structure DT (H:Heap) (d p a:Nat) (D:List V):Prop where
 blk:H.get d = some ⟨tyDk,D,none⟩
 dl:d < H.next
 pl:p < H.next
 dp:d ≠ p
 a64:a < 64
 po:D[1470 + a]? = some (.ptr p 0)
theorem DT.atS {H H':Heap} {d p a:Nat} {D:List V} (h:DT H d p a D) (s:AtS [p] H H'):DT H' d p a D :=
 ⟨(s.same d h.dl (by simp; exact h.dp)).trans h.blk,Nat.lt_of_lt_of_le h.dl s.next,Nat.lt_of_lt_of_le h.pl s.next,h.dp,h.a64,h.po⟩
end Go.Ax.SU
/- Dk12 -/
namespace Go.Ax.SU
open Go.Ax
theorem zjX {H:Heap} {d a:Nat} {bv:V} (n:Int) {Q:Heap → Prop} (ha:a < 64) (vc:bv.cells = [bv]) (vo:bv.okc = true)
  (h:∀ H1,Grow H H1 → Ok (sem T za1 [.ptr d 0,.int .i64 (a:Nat),bv]) H1 fun r H'=>r = .tup [] ∧ Q H') :
  Ok (sem T zaF [.ptr d 0,.agg [.int .i64 2,.int .i64 (a:Nat),.int .i64 n,bv]]) H fun r H'=>r = .tup [.nils,.int .i64 0] ∧ Q H':=by
 refine zdx ?_;unfold zcW uL uT uFM uNFM uNF uB uG uH uO uc;refine zan (zaH (by simp [V.okc,vo]) ?_);rw [zai];have s0:=Grow.new H ⟨za2,[.int .i64 2,.int .i64 (a:Nat),.int .i64 n,bv],none⟩;have g0:(H.new ⟨za2,[.int .i64 2,.int .i64 (a:Nat),.int .i64 n,bv],none⟩).get H.next = some ⟨za2,[.int .i64 2,.int .i64 (a:Nat),.int .i64 n,bv],none⟩:=zad _ _;generalize hq:H.next = q at *;generalize H.new _ = H0 at *;have w:=@zbi _ _ _ _ (@zgO H0 (a:Nat));have e:(decide ((0:Int) ≤ ((a:Nat):Int)) && decide (((a:Nat):Int) ≤ 63)) = true:=by
  rw [decide_eq_true (by omega),decide_eq_true (by omega)]; rfl
 rw [e] at w;simp (disch:=omega) only [↓RD,RZ,g0,w];refine zae (h H0 s0) ?_;rintro _ H1 ⟨rfl,hq⟩;simp (disch:=omega) only [↓RD,RZ];exact hq
theorem zoq {H:Heap} {d a n:Nat} {bv:V} {Q:V → Heap → Prop} (ha:a < 64) (hn:n ≤ 32) (vc:bv.cells = [bv]) (vo:bv.okc = true)
  (h:∀ H1,Grow H H1 → Ok (sem T zbq [.ptr d 0,.int .i64 (a:Nat),.int .i64 (n:Nat)]) H1 Q) :
  Ok (sem T zaF [.ptr d 0,.agg [.int .i64 5,.int .i64 (a:Nat),.int .i64 (n:Nat),bv]]) H fun r H'=>∃ v,r = .tup [v,.int .i64 0] ∧ Q v H':=by
 refine zdx ?_;unfold zcW uL uT uFM uNFM uNF uB uG uH uO uc;refine zan (zaH (by simp [V.okc,vo]) ?_);rw [zai];have s0:=Grow.new H ⟨za2,[.int .i64 5,.int .i64 (a:Nat),.int .i64 (n:Nat),bv],none⟩;have g0:(H.new ⟨za2,[.int .i64 5,.int .i64 (a:Nat),.int .i64 (n:Nat),bv],none⟩).get H.next = some ⟨za2,[.int .i64 5,.int .i64 (a:Nat),.int .i64 (n:Nat),bv],none⟩:=zad _ _;generalize hq:H.next = q at *;generalize H.new _ = H0 at *;have w:=@zbi _ _ _ _ (@zgO H0 (a:Nat));have e:(decide ((0:Int) ≤ ((a:Nat):Int)) && decide (((a:Nat):Int) ≤ 63)) = true:=by
  rw [decide_eq_true (by omega),decide_eq_true (by omega)]; rfl
 rw [e] at w;have d1:decide (((n:Nat):Int) < 0) = false:=decide_eq_false (by omega);have d2:decide ((32:Int) < ((n:Nat):Int)) = false:=decide_eq_false (by omega);have d2':decide (32 < n) = false:=decide_eq_false (by omega);simp (disch:=omega) only [↓RD,RZ,g0,w,d1,d2,d2'];refine zae (h H0 s0) ?_;intro v H1 hq;simp (disch:=omega) only [↓RD,RZ];exact ⟨v,rfl,hq⟩
end Go.Ax.SU
/- Dk13 -/
namespace Go.Ax.SU
open Go.Ax
def txt (l:List Nat):V:=.str ⟨(l.map UInt8.ofNat).toArray⟩
theorem txt_len (l:List Nat):Ax.slen (txt l) = some (.int .i64 (l.length:Nat)):=by
 unfold txt;simp only [Ax.slen,ByteArray.size,List.size_toArray,List.length_map]
theorem txt_at {l:List Nat} (h:Ok8 l) {i:Nat} (hi:i < l.length):Ax.sindex (txt l) (.int .i64 (i:Nat)) = some (.int .u8 (l.getD i 0:Nat)):=by
 have hg:l.getD i 0 = l[i]:=by rw [List.getD_eq_getElem?_getD,List.getElem?_eq_getElem hi]; rfl
 have h8:l[i] < 256:=h _ (List.getElem_mem hi);unfold txt;simp only [Ax.sindex,Int.toNat_natCast];rw [if_pos (by omega)];have:(⟨(l.map UInt8.ofNat).toArray⟩:ByteArray)[i]? = some (UInt8.ofNat l[i]):=by
  rw [getElem?_pos _ _ (by simp [ByteArray.size]; exact hi)];simp [ByteArray.getElem_eq_getElem_data]
 rw [this,hg];simp only [Option.map_some,UInt8.toNat_ofNat',Option.some.injEq];rw [Nat.mod_eq_of_lt (by simpa using h8)]
theorem has_ok {H:Heap} {l:List Nat} {c:Nat} (h:Ok8 l) (hl:l.length ≤ 1000):Ok (sem T zav [txt l,.int .u8 (c:Nat)]) H fun r H'=>r = .bool (l.contains c) ∧ H' = H:=by
 refine ze9 ?_;unfold zdi uc;have hsl:=txt_len l;simp (disch:=omega) only [↓RD,RZ];refine zaL (Q:=fun r H'=>H' = H ∧ ((r = .ex 0 [] ∧ l.contains c = false) ∨ (r = .ret [.bool true] ∧ l.contains c = true))) ?_ ?_
 ·refine zbM (fun j L H'=>L = [.int .i64 (j:Nat)] ∧ H' = H ∧ ∀ k (hk:k < l.length),k < j → l[k] ≠ c) l.length ?_ ?_ ?_
  ·exact ⟨rfl,rfl,fun k _ hk=>by omega⟩
  ·rintro j _ H1 hj ⟨rfl,rfl,hno⟩;have d1:decide (((j:Nat):Int) < ((l.length:Nat):Int)) = true:=decide_eq_true (by omega);have d1':decide (j < l.length) = true:=decide_eq_true hj;have hx:=txt_at h hj;have hg:l.getD j 0 = l[j]:=by rw [List.getD_eq_getElem?_getD,List.getElem?_eq_getElem hj]; rfl
   rw [hg] at hx;have w1:IntKind.i64.wrap (((j:Nat):Int) + 1) = ((j + 1:Nat):Int):=by rw [wrap_i64 (by omega) (by omega)]; omega
   unfold zbP uL uB uc ug;by_cases hc:l[j] = c
   ·have b1:(((l[j]:Nat):Int) == ((c:Nat):Int)) = true:=by rw [hc]; simp
    have b1':(l[j] == c) = true:=by simpa using hc
    simp (disch:=omega) only [↓RD,RZ,hsl,d1,d1',hx,b1,b1'];exact .inr (by rw [List.contains_iff_mem,← hc]; exact List.getElem_mem hj)
   ·have b1:(((l[j]:Nat):Int) == ((c:Nat):Int)) = false:=by simp; omega
    have b1':(l[j] == c) = false:=by simpa using hc
    simp (disch:=omega) only [↓RD,RZ,hsl,d1,d1',hx,b1,b1',w1];intro k hk hkj;by_cases hkk:k < j
    ·exact hno k hk hkk
    ·have:k = j:=by omega
     subst this;exact hc
  ·rintro _ H1 ⟨rfl,rfl,hno⟩;have d1:decide (((l.length:Nat):Int) < ((l.length:Nat):Int)) = false:=decide_eq_false (by omega);have d1':decide (l.length < l.length) = false:=decide_eq_false (by omega);unfold zbP uL uB uc ug;simp (disch:=omega) only [↓RD,RZ,hsl,d1,d1'];refine .inl ?_;cases hh:l.contains c with
   | false=>rfl
   | true =>
    rw [List.contains_iff_mem] at hh;obtain ⟨k,hk,e⟩:=List.mem_iff_getElem.1 hh;exact absurd e (hno k hk hk)
 ·rintro _ H1 ⟨rfl,⟨rfl,h⟩ | ⟨rfl,h⟩⟩
  ·rw [h]; simp (disch:=omega) only [↓RD,RZ]
  ·rw [h]; simp (disch:=omega) only [↓RD,RZ]
theorem in_ok {H:Heap} (x lo hi:Int):Ok (sem T zax [.int .i64 x,.int .i64 lo,.int .i64 hi]) H fun r H'=>r = .bool (decide (lo ≤ x) && decide (x ≤ hi)) ∧ H' = H:=by
 refine zfA ?_;unfold zdH uL uB uG uH;by_cases h:lo ≤ x
 ·have d:decide (lo ≤ x) = true:=decide_eq_true h;simp (disch:=omega) only [↓RD,RZ,d,Bool.true_and]
 ·have d:decide (lo ≤ x) = false:=decide_eq_false h;simp (disch:=omega) only [↓RD,RZ,d,Bool.false_and]
theorem fields18 {H:Heap}:Ok (sem T zaA [.int .i64 18]) H fun r H'=>r = txt [110,109] ∧ H' = H:=by
 refine zbc ?_;unfold zaW uB uc ug;simp (disch:=omega) only [↓RD,RZ];rfl
end Go.Ax.SU
/- Dk14 -/
namespace Go.Ax.SU
open Go.Ax
theorem zmS {l:List Nat} (h:Ok8 l) (hl:l ≠ []):Ax.bin .eql (txt l) (.str ⟨#[]⟩) = some (.bool false):=by
 have e:=bytes_eq (a:=l) (b:=[]) h (by simp);rw [decide_eq_false hl] at e;unfold txt;simp only [Ax.bin];exact congrArg (fun x=>some (V.bool x)) e
end Go.Ax.SU
/- Dk15 -/
namespace Go.Ax.SU
open Go.Ax
theorem num2 (y:Nat):num y 2 = by2 y:=by
 unfold num by2;simp [List.range,List.range.loop]
theorem u64_n {y:Nat} (h:y ≤ 1000000):IntKind.u64.wrap ((y:Nat):Int) = ((y:Nat):Int):=by rw [wrap_u64]; omega
theorem zos {lo:Nat} {H:Heap} {bv:V} {k r s e n m:Nat} {b:List Nat} (hb:By lo H bv b)
  (hg:∀ H',By lo H' bv b → Ok (sem T zal [.agg (nC ⟨(k:Nat),(r:Nat),(s:Nat),(e:Nat),(n:Nat),(m:Nat),b⟩ bv)]) H' fun r' H''=>r' = .bool true ∧ Grow H' H'')
  (h8:k < 256 ∧ r < 256 ∧ s < 256) (h16:e ≤ 65535 ∧ n ≤ 65535 ∧ m ≤ 65535) (hl:b.length ≤ 200) :
  Ok (sem T zbh [.agg (nC ⟨(k:Nat),(r:Nat),(s:Nat),(e:Nat),(n:Nat),(m:Nat),b⟩ bv)]) H fun r' H'=>Grow H H' ∧ ∃ v,r' = .tup [v,.int .i64 0] ∧ Ab H.next H' v (zaE ⟨(k:Nat),(r:Nat),(s:Nat),(e:Nat),(n:Nat),(m:Nat),b⟩):=by
 refine zez ?_;unfold zcI uL uM uS uF uFM uO uU uc ub;obtain ⟨h1,h2,h3⟩:=h8;obtain ⟨h4,h5,h6⟩:=h16;have vc:=hb.cells1;have vo:=hb.okc;refine zan (zaH (by simp [nC,V.okc,vo]) ?_);rw [zai];have s0:=Grow.new H ⟨zab,nC ⟨(k:Nat),(r:Nat),(s:Nat),(e:Nat),(n:Nat),(m:Nat),b⟩ bv,none⟩;have g0:(H.new ⟨zab,nC ⟨(k:Nat),(r:Nat),(s:Nat),(e:Nat),(n:Nat),(m:Nat),b⟩ bv,none⟩).get H.next = some ⟨zab,nC ⟨(k:Nat),(r:Nat),(s:Nat),(e:Nat),(n:Nat),(m:Nat),b⟩ bv,none⟩:=zad _ _;have n0:(H.new ⟨zab,nC ⟨(k:Nat),(r:Nat),(s:Nat),(e:Nat),(n:Nat),(m:Nat),b⟩ bv,none⟩).next = H.next + 1:=zag _ _;generalize hq:H.next = q at *;generalize H.new _ = H0 at *;have l0:ldc (some 7) (nC ⟨(k:Nat),(r:Nat),(s:Nat),(e:Nat),(n:Nat),(m:Nat),b⟩ bv) 0 = some (.agg (nC ⟨(k:Nat),(r:Nat),(s:Nat),(e:Nat),(n:Nat),(m:Nat),b⟩ bv)):=rfl;simp (maxSteps:=1000000) (disch:=first | omega | (simp only [RY] <;> omega) | decide) only [↓RD,RZ,eq_self,Int.reduceToNat,Int.reduceAdd,Int.reduceSub,Int.reduceMul,Nat.reduceAdd,Nat.reduceSub,Nat.reduceMul,Nat.reduceDiv,Nat.reduceMod,Nat.reduceBEq,Nat.reduceLeDiff,g0,l0];refine zae (hg H0 (hb.ext s0)) ?_;rintro _ H1 ⟨rfl,s1⟩;have n1:=s1.next;have s01:=s0.trans s1;have g1:=(s1.same q (by omega)).trans g0;unfold nC at g1;dsimp only at g1;have w8:∀ y:Nat,y < 256 → IntKind.u8.wrap ((y:Nat):Int) = ((y:Nat):Int):=fun y hy=>by rw [wrap_u8]; omega
 have wk:=w8 k h1;have wr:=w8 r h2;have ws:=w8 s h3;have u1:=u64_n (y:=e) (by omega);have u2:=u64_n (y:=n) (by omega);have u3:=u64_n (y:=m) (by omega);have u4:=u64_n (y:=b.length) (by omega);simp (maxSteps:=1000000) (disch:=first | omega | (simp only [RY] <;> omega) | decide) only [↓RD,RZ,eq_self,Int.reduceToNat,Int.reduceAdd,Int.reduceSub,Int.reduceMul,Nat.reduceAdd,Nat.reduceSub,Nat.reduceMul,Nat.reduceDiv,Nat.reduceMod,Nat.reduceBEq,Nat.reduceLeDiff,g1,wk,wr,ws,u1];have sA:=Grow.new H1 ⟨zaw,[.int .u8 (k:Nat),.int .u8 (r:Nat),.int .u8 (s:Nat)],none⟩;have gA:(H1.new ⟨zaw,[.int .u8 (k:Nat),.int .u8 (r:Nat),.int .u8 (s:Nat)],none⟩).get H1.next = _:=zad _ _;have nA:(H1.new ⟨zaw,[.int .u8 (k:Nat),.int .u8 (r:Nat),.int .u8 (s:Nat)],none⟩).next = H1.next + 1:=zag _ _;rw [zb8];generalize hp:H1.next = p at *;generalize H1.new _ = H2 at *;have hv0:By p H2 (.sl p 0 3 (.fix 3)) [k,r,s]:=Ab.by (.full gA rfl (Nat.le_refl _) (by omega));have g2:=(sA.same q (by omega)).trans g1;refine zae (U_ok e 2 hv0 (by omega) (by omega) (by simp)) ?_;rintro v1 H3 ⟨hv1,s3⟩;have n3:=s3.next;have g3:=(s3.same q (by omega)).trans g2;simp (maxSteps:=1000000) (disch:=first | omega | (simp only [RY] <;> omega) | decide) only [↓RD,RZ,eq_self,Int.reduceToNat,Int.reduceAdd,Int.reduceSub,Int.reduceMul,Nat.reduceAdd,Nat.reduceSub,Nat.reduceMul,Nat.reduceDiv,Nat.reduceMod,Nat.reduceBEq,Nat.reduceLeDiff,g3,u2];refine zae (U_ok n 2 hv1.by (by omega) (by omega) (by simp [zkn])) ?_;rintro v2 H4 ⟨hv2,s4⟩;have n4:=s4.next;have g4:=(s4.same q (by omega)).trans g3;simp (maxSteps:=1000000) (disch:=first | omega | (simp only [RY] <;> omega) | decide) only [↓RD,RZ,eq_self,Int.reduceToNat,Int.reduceAdd,Int.reduceSub,Int.reduceMul,Nat.reduceAdd,Nat.reduceSub,Nat.reduceMul,Nat.reduceDiv,Nat.reduceMod,Nat.reduceBEq,Nat.reduceLeDiff,g4,u3];refine zae (U_ok m 2 hv2.by (by omega) (by omega) (by simp [zkn])) ?_;rintro v3 H5 ⟨hv3,s5⟩;have n5:=s5.next;have g5:=(s5.same q (by omega)).trans g4;have s05:=s01.trans (sA.trans (s3.trans (s4.trans s5)));have bl:=(hb.ext s05).vlen;simp (maxSteps:=1000000) (disch:=first | omega | (simp only [RY] <;> omega) | decide) only [↓RD,RZ,eq_self,Int.reduceToNat,Int.reduceAdd,Int.reduceSub,Int.reduceMul,Nat.reduceAdd,Nat.reduceSub,Nat.reduceMul,Nat.reduceDiv,Nat.reduceMod,Nat.reduceBEq,Nat.reduceLeDiff,g5,bl,u4];refine zae (U_ok b.length 2 hv3.by (by omega) (by omega) (by simp [zkn])) ?_;rintro v4 H6 ⟨hv4,s6⟩;have n6:=s6.next;have e6:=s6.same q (by omega);have s06:=s05.trans s6;simp (maxSteps:=1000000) (disch:=first | omega | (simp only [RY] <;> omega) | decide) only [↓RD,RZ,eq_self,Int.reduceToNat,Int.reduceAdd,Int.reduceSub,Int.reduceMul,Nat.reduceAdd,Nat.reduceSub,Nat.reduceMul,Nat.reduceDiv,Nat.reduceMod,Nat.reduceBEq,Nat.reduceLeDiff,e6];refine zlc hv4 n6 (hb.ext s06).ac (by simp only [List.length_append,zkn,List.length_cons,List.length_nil]; omega) fun v5 H7 hv5 b7=>?_;simp (maxSteps:=1000000) (disch:=first | omega | (simp only [RY] <;> omega) | decide) only [↓RD,RZ,eq_self,Int.reduceToNat,Int.reduceAdd,Int.reduceSub,Int.reduceMul,Nat.reduceAdd,Nat.reduceSub,Nat.reduceMul,Nat.reduceDiv,Nat.reduceMod,Nat.reduceBEq,Nat.reduceLeDiff]
 have n05:=s05.next;refine ⟨s06.bel' (by omega) b7,v5,rfl,?_⟩;have e':zaE ⟨(k:Nat),(r:Nat),(s:Nat),(e:Nat),(n:Nat),(m:Nat),b⟩ = [k,r,s] ++ num e 2 ++ num n 2 ++ num m 2 ++ num b.length 2 ++ b:=by
  unfold zaE;simp only [Int.toNat_natCast,num2,List.flatMap_cons,List.flatMap_nil,List.append_nil,List.append_assoc]
 rw [e'];exact Apf.low hv5 (by omega)
theorem says_ok {lo:Nat} {H:Heap} {bv:V} {k r s e n m:Nat} {b:List Nat} (hb:By lo H bv b)
  (hg:∀ H',By lo H' bv b → Ok (sem T zal [.agg (nC ⟨(k:Nat),(r:Nat),(s:Nat),(e:Nat),(n:Nat),(m:Nat),b⟩ bv)]) H' fun r' H''=>r' = .bool true ∧ Grow H' H'')
  (h8:k < 256 ∧ r < 256 ∧ s < 256) (h16:e ≤ 65535 ∧ n ≤ 65535 ∧ m ≤ 65535) (hl:b.length ≤ 200) :
  Ok (sem T zaJ [.agg (nC ⟨(k:Nat),(r:Nat),(s:Nat),(e:Nat),(n:Nat),(m:Nat),b⟩ bv)]) H fun r' H'=>Grow H H' ∧ Ab H.next H' r' (zaE ⟨(k:Nat),(r:Nat),(s:Nat),(e:Nat),(n:Nat),(m:Nat),b⟩):=by
 refine zeX ?_;unfold zc5 uS uE uO;have vc:=hb.cells1;have vo:=hb.okc;refine zan (zaH (by simp [nC,V.okc,vo]) ?_);rw [zai];have s0:=Grow.new H ⟨zab,nC ⟨(k:Nat),(r:Nat),(s:Nat),(e:Nat),(n:Nat),(m:Nat),b⟩ bv,none⟩;have g0:(H.new ⟨zab,nC ⟨(k:Nat),(r:Nat),(s:Nat),(e:Nat),(n:Nat),(m:Nat),b⟩ bv,none⟩).get H.next = some ⟨zab,nC ⟨(k:Nat),(r:Nat),(s:Nat),(e:Nat),(n:Nat),(m:Nat),b⟩ bv,none⟩:=zad _ _;generalize hq:H.next = q at *;generalize H.new _ = H0 at *;have l0:ldc (some 7) (nC ⟨(k:Nat),(r:Nat),(s:Nat),(e:Nat),(n:Nat),(m:Nat),b⟩ bv) 0 = some (.agg (nC ⟨(k:Nat),(r:Nat),(s:Nat),(e:Nat),(n:Nat),(m:Nat),b⟩ bv)):=rfl;have n1:=s0.next;simp (disch:=omega) only [↓RD,RZ,g0,l0];refine zae (zos (hb.ext s0) hg h8 h16 hl) ?_;rintro _ H1 ⟨s1,v,rfl,hv⟩;simp (disch:=omega) only [↓RD,RZ];exact ⟨s0.trans s1,Apf.low hv (by omega)⟩
end Go.Ax.SU
/- Dk16 -/
namespace Go.Ax.SU
open Go.Ax
theorem zh0 {lo:Nat} {H:Heap} {bv:V} {b:List Nat} {i:Nat} (hb:By lo H bv b) (b8:Ok8 b) (hi:i + 1 < b.length) (hl:b.length ≤ 1000000) :
  Ok (sem T zau [bv,.int .i64 (i:Nat)]) H fun r H'=>r = .int .i64 (twoB b i:Nat) ∧ H' = H:=by
 refine ze8 ?_;unfold zdh uL uB uIM uc uq;obtain ⟨p0,hp0,hl0,-⟩:=zhY hb (i:=(i:Nat)) (by omega) (by omega);obtain ⟨p1,hp1,hl1,-⟩:=zhY hb (i:=((i + 1:Nat):Int)) (by omega) (by omega);rw [Int.toNat_natCast] at hl0 hl1;have h0:=b8.getD i;have h1:=b8.getD (i + 1);have c0:=zjd h0;have c1:=zjd h1;have w:IntKind.i64.wrap (((i:Nat):Int) + 1) = ((i + 1:Nat):Int):=by rw [wrap_i64 (by omega) (by omega)]; omega
 have sh:Ax.bin .shl (.int .i64 (b.getD i 0:Nat)) (.int .u64 8) = some (.int .i64 (b.getD i 0 * 256:Nat)):=by
  rw [zf5 (by decide)];have:((b.getD i 0:Nat):Int) * 2 ^ min (8:Int).toNat IntKind.i64.bits = ((b.getD i 0 * 256:Nat):Int):=by
   show ((b.getD i 0:Nat):Int) * 256 = _;omega
  rw [this,wrap_i64 (by omega) (by omega)]
 have ho:=two8 h0 h1;unfold twoB;generalize b.getD i 0 = x at *;generalize b.getD (i + 1) 0 = y at *;have ho':Ax.bin .or (.int .i64 (x * 256:Nat)) (.int .i64 (y:Nat)) = some (.int .i64 (x * 256 + y:Nat)):=by
  rw [zmZ (by omega) (by omega) (by omega) (by omega),Int.toNat_natCast,Int.toNat_natCast,ho]
 simp (disch:=omega) only [↓RD,RZ,hp0,hl0,hp1,hl1,c0,c1,w,sh,ho']
theorem zom {lo:Nat} {H:Heap} {bv:V} {b:List Nat} (hb:By lo H bv b) (b8:Ok8 b) (h11:11 ≤ b.length) (h9:twoB b 9 = b.length - 11) (h2:twoB b 9 ≤ 200)
  (hg:∀ (H':Heap) (lo':Nat) (v:V),By lo' H' v (b.drop 11) → Ok (sem T zal [.agg (nC (rawN b) v)]) H' fun r' H''=>r' = .bool true ∧ Grow H' H'') :
  Ok (sem T zaG [bv]) H fun r H'=>Grow H H' ∧ ∃ v,r = .tup [.agg (nC (rawN b) v),.int .i64 0] ∧ By H.next H' v (b.drop 11):=by
 refine zey ?_;unfold zcH uL uM uS uT uF uB uI uO uU uc ub;have hl:b.length ≤ 1000000:=by omega
 refine zan (zaH rfl ?_);rw [zai];have s1:=Grow.new H ⟨zab,nC zN .nils,none⟩;have p1:(H.new ⟨zab,nC zN .nils,none⟩).get H.next = some ⟨zab,nC zN .nils,none⟩:=zad _ _;have n1:(H.new ⟨zab,nC zN .nils,none⟩).next = H.next + 1:=zag _ _;show Ok _ (H.new ⟨zab,nC zN .nils,none⟩) _;generalize hq:H.next = q at *;generalize H.new _ = H1 at *;have hb1:=hb.ext s1;have bl:=hb1.vlen;have d:decide (((b.length:Nat):Int) < 11) = false:=decide_eq_false (by omega);have d':decide (b.length < 11) = false:=decide_eq_false (by omega);obtain ⟨p0,hp0,hl0,-⟩:=zhY hb1 (i:=0) (by omega) (by omega);obtain ⟨p1',hp1,hl1,-⟩:=zhY hb1 (i:=1) (by omega) (by omega);obtain ⟨p2,hp2,hl2,-⟩:=zhY hb1 (i:=2) (by omega) (by omega);have c0:=zjd (b8.getD 0);have c1:=zjd (b8.getD 1);have c2:=zjd (b8.getD 2);have t3:=@zbi _ _ _ _ (show Ok (sem T zau [bv,.int .i64 3]) H1 _ from zh0 (i:=3) hb1 b8 (by omega) hl);have t5:=@zbi _ _ _ _ (show Ok (sem T zau [bv,.int .i64 5]) H1 _ from zh0 (i:=5) hb1 b8 (by omega) hl);have t7:=@zbi _ _ _ _ (show Ok (sem T zau [bv,.int .i64 7]) H1 _ from zh0 (i:=7) hb1 b8 (by omega) hl);simp (maxSteps:=1000000) (disch:=first | omega | (simp only [RY] <;> omega) | decide) only [↓RD,RZ,eq_self,Int.reduceToNat,Int.reduceAdd,Int.reduceSub,Int.reduceMul,Nat.reduceAdd,Nat.reduceSub,Nat.reduceMul,Nat.reduceDiv,Nat.reduceMod,Nat.reduceBEq,Nat.reduceLeDiff,bl,d,d',hp0,hp1,hp2,hl0,hl1,hl2,c0,c1,c2,t3,t5,t7];have h8:=b8.getD;have s2:Grow H1 ((H1.new ⟨zab,[.int .i64 0,.int .i64 0,.int .i64 0,.int .i64 0,.int .i64 0,.int .i64 0,.nils],none⟩).set H1.next (some ⟨zab,nC { rawN b with b:=[] } .nils,none⟩)):=(Grow.new _ _).set (Nat.le_refl _) _;have p3:((H1.new ⟨zab,[.int .i64 0,.int .i64 0,.int .i64 0,.int .i64 0,.int .i64 0,.int .i64 0,.nils],none⟩).set H1.next (some ⟨zab,nC { rawN b with b:=[] } .nils,none⟩)).get H1.next = _:=zaY _ _ _;have n2:((H1.new ⟨zab,[.int .i64 0,.int .i64 0,.int .i64 0,.int .i64 0,.int .i64 0,.int .i64 0,.nils],none⟩).set H1.next (some ⟨zab,nC { rawN b with b:=[] } .nils,none⟩)).next = H1.next + 1:=rfl;rw [zb8];rw [n1] at s2 p3 n2;rw [n1];unfold nC rawN at s2 p3 n2;dsimp only at s2 p3 n2;generalize Heap.set (Heap.new H1 _) _ _ = H2 at *;have p2':=(s2.same q (by omega)).trans p1;have hb2:=hb1.ext s2;have s02:=s1.trans s2;have bl2:=hb2.vlen;have d1:decide ((200:Int) < ((b.length - 11:Nat):Int)) = false:=decide_eq_false (by omega);have d1':decide (200 < b.length - 11) = false:=decide_eq_false (by omega);have w11:IntKind.i64.wrap (((b.length:Nat):Int) - 11) = ((b.length - 11:Nat):Int):=by rw [wrap_i64 (by omega) (by omega)]; omega
 obtain ⟨rv,-,-,hs,hrv,-⟩:=zne hb2 (x:=11) (y:=(b.length:Nat)) (by omega) (by omega) (by omega);replace hs:∀ {kk:IntKind},zbA .sl 1 bv (some (.int kk 11)) none none = some rv:=hs rfl;have hr2:By lo H2 rv (b.drop 11):=by
  have e:((b.drop (11:Int).toNat).take (((b.length:Nat):Int).toNat - (11:Int).toNat)) = b.drop 11:=List.take_of_length_le (by rw [List.length_drop,Int.toNat_natCast]; exact Nat.le_refl _);rw [e] at hrv;exact hrv
 refine zae (zh0 (i:=9) hb2 b8 (by omega) hl) ?_;rintro _ H2 ⟨rfl,rfl⟩;rw [h9];have dl:decide (((b.length - 11:Nat):Int) < ((b.length - 11:Nat):Int)) = false:=decide_eq_false (by omega);have dl':decide (b.length - 11 < b.length - 11) = false:=decide_eq_false (by omega);simp (maxSteps:=1000000) (disch:=first | omega | (simp only [RY] <;> omega) | decide) only [↓RD,RZ,eq_self,Int.reduceToNat,Int.reduceAdd,Int.reduceSub,Int.reduceMul,Nat.reduceAdd,Nat.reduceSub,Nat.reduceMul,Nat.reduceDiv,Nat.reduceMod,Nat.reduceBEq,Nat.reduceLeDiff,d1,d1',bl2,w11,dl,dl',hs];rw [zb8];refine copy8 hr2 (by rw [List.length_drop]; omega) fun v H3 hv s3=>?_;have n3:=s3.next;have p33:=(s3.same (q + 1) (by omega)).trans p3;have p23:=(s3.same q (by omega)).trans p2';have vc3:=hv.by.cells1;have vo3:=hv.by.okc;simp (maxSteps:=1000000) (disch:=first | omega | (simp only [RY] <;> omega) | decide) only [↓RD,RZ,eq_self,Int.reduceToNat,Int.reduceAdd,Int.reduceSub,Int.reduceMul,Nat.reduceAdd,Nat.reduceSub,Nat.reduceMul,Nat.reduceDiv,Nat.reduceMod,Nat.reduceBEq,Nat.reduceLeDiff,p33,vc3,vo3];rw [zb8];have n2':H2.next = q + 2:=by omega
 have a4:AtS [q + 1] H3 (H3.set (q + 1) (some ⟨zab,nC (rawN b) v,none⟩)):=AtS.set _ (by simp) _;have s34:Grow H (H3.set (q + 1) (some ⟨zab,nC (rawN b) v,none⟩)):=(s02.trans s3).set (by omega) _;have p34:(H3.set (q + 1) (some ⟨zab,nC (rawN b) v,none⟩)).get (q + 1) = _:=zaY _ _ _;have p24:(H3.set (q + 1) (some ⟨zab,nC (rawN b) v,none⟩)).get q = _:=(zaD _ _ (by omega)).trans p23;have n4:(H3.set (q + 1) (some ⟨zab,nC (rawN b) v,none⟩)).next = H3.next:=rfl;have hv4:=Lc.atS hv.by a4 fun j hj h=>by
  have:=(hv.by.own j hj).1;simp only [List.mem_singleton] at h;omega
 show Ok _ (H3.set (q + 1) (some ⟨zab,nC (rawN b) v,none⟩)) _;generalize Heap.set H3 _ _ = H4 at *;refine zae (hg H4 _ v hv4) ?_;rintro _ H5 ⟨rfl,s5⟩;have p35:=(s5.same (q + 1) (by omega)).trans p34;have p25:=(s5.same q (by omega)).trans p24;have s05:=s34.trans s5;have hv5:=hv4.ext s5;have l7:ldc (some 7) (nC (rawN b) v) 0 = some (.agg (nC (rawN b) v)):=rfl;have hc7:(nC (rawN b) v).length = 7:=rfl;have ok7:(V.agg (nC (rawN b) v)).okc = true:=by simp [nC,V.okc,vo3]
 have sp7:splice (nC zN .nils) 0 (nC (rawN b) v) = nC (rawN b) v:=rfl;have hz7:(nC zN .nils).length = 7:=rfl;simp (maxSteps:=1000000) (disch:=first | omega | (simp only [RY] <;> omega) | decide) only [↓RD,RZ,eq_self,Int.reduceToNat,Int.reduceAdd,Int.reduceSub,Int.reduceMul,Nat.reduceAdd,Nat.reduceSub,Nat.reduceMul,Nat.reduceDiv,Nat.reduceMod,Nat.reduceBEq,Nat.reduceLeDiff,p35,l7,p25,zai,hc7,ok7,sp7,hz7];refine ⟨s05.set (by omega) _,v,rfl,?_⟩;exact (Lc.atS hv5 (AtS.set (S:=[q]) H5 (by simp) _) fun j hj h=>by
  have:=(hv.by.own j hj).1;simp only [List.mem_singleton] at h;omega).low (by omega)
end Go.Ax.SU
/- De1 -/
namespace Go.Ax.SU
open Go.Ax
inductive Apo (ty e lo:Nat) (H:Heap):V → List V → Nat → Prop
 | app {v:V} {cells:List V} {n:Nat} (h:App ty e lo H v cells n):Apo ty e lo H v cells n
 | mid {id off n:Nat} {cs:List V} (h:H.get id = some ⟨ty,cs,some e⟩) (hl:cs.length = off + n * e) (h0:lo ≤ id) (h1:id < H.next):Apo ty e lo H (.sl id off n (.opn e)) (cs.drop off) n
theorem Apo.nil {ty e lo:Nat} {H:Heap}:Apo ty e lo H .nils [] 0:=.app App.nil
theorem Apo.lc {ty e lo n:Nat} {H:Heap} {v:V} {cells:List V} (h:Apo ty e lo H v cells n):Lc e lo H v cells n:=by
 cases h with
 | app h=>exact h.lc
 | mid h hl h0 h1 =>
  refine ⟨?_,fun id hi=>by simp only [V.pid,Option.some.injEq] at hi; subst hi; exact ⟨h0,h1⟩,rfl⟩;simp only [za7,h,Option.bind_some];rw [if_pos (by omega),List.take_of_length_le (by rw [List.length_drop]; omega)]
theorem Apo.atS {ty e lo n:Nat} {S:List Nat} {H H':Heap} {v:V} {cells:List V} (h:Apo ty e lo H v cells n) (s:AtS S H H') (hS:∀ i,v.pid = some i → i ∉ S):Apo ty e lo H' v cells n:=by
 cases h with
 | app h=>exact .app (h.atS s hS)
 | mid h hl h0 h1=>exact .mid ((s.same _ h1 (hS _ rfl)).trans h) hl h0 (Nat.lt_of_lt_of_le h1 s.next)
theorem Apo.to {ty e lo n:Nat} {H H':Heap} {v:V} {cells:List V} (h:Apo ty e lo H v cells n) (hs:∀ i,v.pid = some i → H'.get i = H.get i) (hn:H.next ≤ H'.next):Apo ty e lo H' v cells n:=by
 cases h with
 | app h =>
  cases h with
  | opn ho hi=>exact .app (.opn (ho.to hs) fun i hi'=>⟨(hi i hi').1,Nat.lt_of_lt_of_le (hi i hi').2 hn⟩)
  | lit h1 h2 h3=>exact .app (.lit ((hs _ rfl).trans h1) h2 (Nat.lt_of_lt_of_le h3 hn))
 | mid h hl h0 h1=>exact .mid ((hs _ rfl).trans h) hl h0 (Nat.lt_of_lt_of_le h1 hn)
theorem zo2 {β:Type} {ty e bytes lo n m:Nat} {H:Heap} {x y:V} {cells q:List V} {f:V → M β} {Q:β → Heap → Prop} (hx:Apo ty e lo H x cells n) (hlo:lo ≤ H.next) (hy:zbS e H y = some (q,m)) (hq:q.length = m * e)
  (hb:(n + m) * bytes ≤ 140737488355328) (hm:n + m ≤ 140737488355328)
  (k:∀ x' H',Apo ty e lo H' x' (cells ++ q) (n + m) → Step H H' x.pid.toList x'.pid.toList → Ok (f x') H' Q):Ok ((zaC ty e bytes x y).bind f) H Q:=by
 cases hx with
 | app h=>exact zka h hlo hy hq hb hm fun x' H' h'=>k x' H' (.app h')
 | mid h hl h0 h1 =>
  rename_i id off cs;have hml:n + m ≤ maxLen:=Nat.le_trans hm zfy;have hp:((V.sl id off n (.opn e)).pid).toList = [id]:=rfl;by_cases hz:m = 0
  ·subst hz;have hq0:q = []:=List.eq_nil_of_length_eq_zero (by omega);subst hq0;refine zan ⟨.sl id off n (.opn e),H,?_,k _ _ ?_ ⟨Nat.le_refl _,fun _ _ _=>rfl,fun _ h=>.inl h⟩⟩
   ·simp only [zaC,hy,Option.bind_some,zbo,h];rw [if_pos ⟨by omega,trivial⟩,if_pos ⟨trivial,trivial,hl⟩];rfl
   ·rw [List.append_nil];exact .mid h hl h0 h1
  ·refine zan ⟨.sl H.next 0 (n + m) (.opn e),(H.set id none).new ⟨ty,cs.drop off ++ q,some e⟩,?_,k _ _ ?_ ⟨by rw [zag,zbR]; omega,fun i hi hF=>?_,fun i hi=>.inr ?_⟩⟩
   ·simp only [zaC,hy,Option.bind_some,zbo,h];rw [if_pos ⟨by omega,trivial⟩,if_pos ⟨trivial,trivial,hl⟩,if_neg hz,if_pos ⟨hb,hml⟩]
   ·have:=Apo.mid (ty:=ty) (e:=e) (lo:=lo) (off:=0) (n:=n + m) (H:=(H.set id none).new ⟨ty,cs.drop off ++ q,some e⟩) (id:=H.next) (cs:=cs.drop off ++ q) (zad (H.set id none) _) (by rw [List.length_append,List.length_drop,hq,Nat.add_mul]; omega) hlo (by rw [zag,zbR]; omega)
    rwa [List.drop_zero] at this
   ·rw [zaX _ _ (by rw [zbR]; omega),zaD];rw [hp,List.mem_singleton] at hF;exact hF
   ·simp only [V.pid,Option.toList_some,List.mem_singleton] at hi;subst hi;exact ⟨Nat.le_refl _,by rw [zag,zbR]; omega⟩
theorem Apo.tail {ty lo n:Nat} {H:Heap} {v:V} {w c l:List V} (h:Apo ty 3 lo H v w (n + 1)) (hw:w = c ++ l) (hc:c.length = 3):∃ v',(∀ {k:IntKind},zbA .sl 3 v (some (.int k 1)) none none = some v') ∧ Apo ty 3 lo H v' l n ∧ v'.pid = v.pid ∧ v'.cells = [v'] ∧ v'.okc = true:=by
 have key:∀ {id off:Nat} {cs:List V},v = .sl id off (n + 1) (.opn 3) → H.get id = some ⟨ty,cs,some 3⟩ → cs.length = off + (n + 1) * 3 → cs.drop off = c ++ l → lo ≤ id → id < H.next → ∃ v',(∀ {k:IntKind},zbA .sl 3 v (some (.int k 1)) none none = some v') ∧ Apo ty 3 lo H v' l n ∧ v'.pid = v.pid ∧ v'.cells = [v'] ∧ v'.okc = true:=by
  intro id off cs hv hg hl he h0 h1;subst hv;refine ⟨.sl id (off + 3) n (.opn 3),fun {k}=>?_,?_,rfl,rfl,rfl⟩
  ·simp only [zbA,zde,vint,Option.map_some,Option.bind_some,Option.getD_some,Option.getD_none];rw [if_neg (by simp),if_pos ⟨trivial,by omega,by omega,by omega⟩];have e1:(((n + 1:Nat):Int)).toNat - (1:Int).toNat = n:=by rw [Int.toNat_natCast]; rfl
   rw [e1];rfl
  ·have e:l = cs.drop (off + 3):=by rw [← List.drop_drop,he,List.drop_left' hc]
   rw [e];exact .mid hg (by omega) h0 h1
 generalize hm:n + 1 = m at *;cases h with
 | app h' =>
  cases h' with
  | opn ho hi =>
   rcases ho with ⟨rfl,h2,h3⟩ | ⟨id,rfl,hg,hl⟩
   ·omega
   ·obtain ⟨h4,h5⟩:=hi id rfl;exact key (off:=0) rfl hg (by rw [hl]; omega) hw h4 h5
  | lit _ _ _=>omega
 | mid hg hl h0 h1=>exact key rfl hg hl hw h0 h1
end Go.Ax.SU
/- De2 -/
namespace Go.Ax.SU
open Go.Ax
def upd {α:Type} (f:Nat → α) (a:Nat) (x:α):Nat → α:=fun b=>if b = a then x else f b
theorem zaB {α:Type} (f:Nat → α) (a:Nat) (x:α):upd f a x a = x:=if_pos rfl
theorem upd_ne {α:Type} (f:Nat → α) {a b:Nat} (x:α) (h:b ≠ a):upd f a x b = f b:=if_neg h
theorem upd_same {α:Type} (f:Nat → α) (a:Nat):upd f a (f a) = f:=by
 funext b;unfold upd;split
 ·rename_i h; rw [h]
 ·rfl
structure PM (lo:Nat) (H:Heap) (P:Nat → Nat) (L:Nat → V) (q:Nat → List (V × Ot)):Prop where
 top:lo ≤ H.next
 low:∀ a,a < 64 → P a < lo
 inj:∀ a b,a < 64 → b < 64 → P a = P b → a = b
 blk:∀ a,a < 64 → H.get (P a) = some ⟨tyPo,[.int .i64 32,L a],none⟩
 app:∀ a,a < 64 → Apo tyOu 3 lo H (L a) (((q a).map oC).flatten) (q a).length
 le:∀ a,a < 64 → (q a).length ≤ 32
 sep:∀ a b i,a < 64 → b < 64 → a ≠ b → (L a).pid = some i → (L b).pid ≠ some i
 each:∀ a,a < 64 → ∀ e ∈ q a,By lo H e.1 e.2.b ∧ ∀ b i,b < 64 → e.1.pid = some i → (L b).pid ≠ some i
structure FrD (lo:Nat) (L L':Nat → V) (H H':Heap):Prop where
 next:H.next ≤ H'.next
 same:∀ i,lo ≤ i → i < H.next → (∀ a,a < 64 → (L a).pid ≠ some i) → H'.get i = H.get i
 own:∀ a i,a < 64 → (L' a).pid = some i → H.next ≤ i ∨ ∃ b,b < 64 ∧ (L b).pid = some i
theorem FrD.refl (lo:Nat) (L:Nat → V) (H:Heap):FrD lo L L H H:=⟨Nat.le_refl _,fun _ _ _ _=>rfl,fun a i ha h=>.inr ⟨a,ha,h⟩⟩
theorem FrD.trans {lo:Nat} {L L1 L2:Nat → V} {H H1 H2:Heap} (h:FrD lo L L1 H H1) (g:FrD lo L1 L2 H1 H2):FrD lo L L2 H H2:=by
 refine ⟨Nat.le_trans h.next g.next,fun i hl hi hn=>?_,fun a i ha hi=>?_⟩
 ·rw [g.same i hl (Nat.lt_of_lt_of_le hi h.next) fun a ha e=>?_,h.same i hl hi hn];rcases h.own a i ha e with h1 | ⟨b,hb,h1⟩
  ·omega
  ·exact hn b hb h1
 ·rcases g.own a i ha hi with h1 | ⟨b,hb,h1⟩
  ·exact .inl (Nat.le_trans h.next h1)
  ·exact h.own b i hb h1
theorem _root_.Go.Ax.Grow.frD {H H':Heap} (s:Grow H H') (lo:Nat) (L:Nat → V):FrD lo L L H H':=⟨s.next,fun i _ hi _=>s.same i hi,fun a i ha h=>.inr ⟨a,ha,h⟩⟩
theorem FrD.low {lo:Nat} {S:List Nat} {H H':Heap} (s:AtS S H H') (L:Nat → V) (hS:∀ i ∈ S,i < lo):FrD lo L L H H':=⟨s.next,fun i hl hi _=>s.same i hi fun e=>by have:=hS i e; omega,fun a i ha h=>.inr ⟨a,ha,h⟩⟩
theorem PM.atS {lo:Nat} {S:List Nat} {H H':Heap} {P:Nat → Nat} {L:Nat → V} {q:Nat → List (V × Ot)} (h:PM lo H P L q) (s:AtS S H H') (hS:∀ i ∈ S,i < lo ∧ ∀ a,a < 64 → i ≠ P a):PM lo H' P L q:=by
 have h5:=h.top;refine ⟨Nat.le_trans h.top s.next,h.low,h.inj,fun a ha=>(s.same _ (by have:=h.low a ha; omega) fun e=>(hS _ e).2 a ha rfl).trans (h.blk a ha),fun a ha=>(h.app a ha).atS s fun i hi e=>?_,h.le,h.sep,fun a ha e he=>⟨Lc.atS (h.each a ha e he).1 s fun i hi e'=>?_,(h.each a ha e he).2⟩⟩
 ·have:=((h.app a ha).lc.own i hi).1;have:=(hS i e).1;omega
 ·have:=((h.each a ha e he).1.own i hi).1;have:=(hS i e').1;omega
theorem PM.grow {lo:Nat} {H H':Heap} {P:Nat → Nat} {L:Nat → V} {q:Nat → List (V × Ot)} (h:PM lo H P L q) (s:Grow H H'):PM lo H' P L q:=h.atS (Grow.atS s []) (by simp)
theorem PM.post {lo a:Nat} {H H':Heap} {P:Nat → Nat} {L:Nat → V} {q:Nat → List (V × Ot)} {x:V} {l:List (V × Ot)} (h:PM lo H P L q) (ha:a < 64) (hn:H.next ≤ H'.next) (hs:∀ i,i < H.next → i ≠ P a → (L a).pid ≠ some i → H'.get i = H.get i)
  (hb:H'.get (P a) = some ⟨tyPo,[.int .i64 32,x],none⟩) (hx:Apo tyOu 3 lo H' x ((l.map oC).flatten) l.length) (hl:l.length ≤ 32) (hxo:∀ i,x.pid = some i → H.next ≤ i ∨ (L a).pid = some i)
  (he:∀ e ∈ l,By lo H' e.1 e.2.b ∧ (∀ i,e.1.pid = some i → x.pid ≠ some i) ∧ ∀ b i,b < 64 → e.1.pid = some i → b ≠ a → (L b).pid ≠ some i):PM lo H' P (upd L a x) (upd q a l):=by
 have h5:=h.top;have hlo:=h.low;have hown:∀ b,b < 64 → b ≠ a → ∀ i,(L b).pid = some i → i < H.next ∧ i ≠ P a ∧ (L a).pid ≠ some i:=fun b hb hne i hi=>by
  have h1:=(h.app b hb).lc.own i hi;have h2:=hlo a ha;exact ⟨h1.2,by omega,h.sep b a i hb ha hne hi⟩
 have hele:∀ b,b < 64 → ∀ e ∈ q b,∀ i,e.1.pid = some i → i < H.next ∧ i ≠ P a ∧ (L a).pid ≠ some i:=fun b hb e he i hi=>by
  have h1:=(h.each b hb e he).1.own i hi;have h2:=hlo a ha;exact ⟨h1.2,by omega,(h.each b hb e he).2 a i ha hi⟩
 refine ⟨by omega,h.low,h.inj,fun b hb'=>?_,fun b hb'=>?_,fun b hb'=>?_,fun b c i hb' hc hne hi=>?_,fun b hb' e he'=>?_⟩
 ·by_cases hba:b = a
  ·subst hba; rw [zaB]; exact hb
  ·rw [upd_ne _ _ hba,hs _ (by have:=hlo b hb'; omega) (fun e=>hba (h.inj b a hb' ha e)) fun e=>by have:=((h.app a ha).lc.own _ e).1; have:=hlo b hb'; omega];exact h.blk b hb'
 ·by_cases hba:b = a
  ·subst hba; rw [zaB,zaB]; exact hx
  ·rw [upd_ne _ _ hba,upd_ne _ _ hba];exact (h.app b hb').to (fun i hi=>hs i (hown b hb' hba i hi).1 (hown b hb' hba i hi).2.1 (hown b hb' hba i hi).2.2) hn
 ·by_cases hba:b = a
  ·subst hba; rw [zaB]; exact hl
  ·rw [upd_ne _ _ hba]; exact h.le b hb'
 ·by_cases hba:b = a
  ·subst hba;rw [zaB] at hi;rw [upd_ne _ _ (Ne.symm hne)];rcases hxo i hi with h1 | h1
   ·intro e;have:=(hown c hc (Ne.symm hne) i e).1;omega
   ·exact h.sep b c i hb' hc hne h1
  ·rw [upd_ne _ _ hba] at hi;by_cases hca:c = a
   ·subst hca;rw [zaB];intro e;rcases hxo i e with h1 | h1
    ·have:=(hown b hb' hba i hi).1;omega
    ·exact h.sep b c i hb' hc hba hi h1
   ·rw [upd_ne _ _ hca]; exact h.sep b c i hb' hc hne hi
 ·by_cases hba:b = a
  ·subst hba;rw [zaB] at he';obtain ⟨k1,k2,k3⟩:=he e he';refine ⟨k1,fun c i hc hi=>?_⟩;by_cases hca:c = b
   ·subst hca; rw [zaB]; exact k2 i hi
   ·rw [upd_ne _ _ hca]; exact k3 c i hc hi hca
  ·rw [upd_ne _ _ hba] at he';obtain ⟨k1,k2⟩:=h.each b hb' e he';have hk:=hele b hb' e he';refine ⟨⟨by rw [zdv fun i hi=>hs i (hk i hi).1 (hk i hi).2.1 (hk i hi).2.2]; exact k1.rc,fun i hi=>⟨(k1.own i hi).1,by have:=(k1.own i hi).2; omega⟩,k1.cap⟩,fun c i hc hi=>?_⟩;by_cases hca:c = a
   ·subst hca;rw [zaB];intro e';rcases hxo i e' with h1 | h1
    ·have:=(hk i hi).1;omega
    ·exact (hk i hi).2.2 h1
   ·rw [upd_ne _ _ hca]; exact k2 c i hc hi
theorem Add_a_ok {lo a:Nat} {H:Heap} {P:Nat → Nat} {L:Nat → V} {q:Nat → List (V × Ot)} {bv:V} {o:Ot} (hQ:PM lo H P L q) (ha:a < 64) (hb:By lo H bv o.b) (hsep:∀ b i,b < 64 → bv.pid = some i → (L b).pid ≠ some i) :
  Ok (sem T za4 [.ptr (P a) 0,.agg (oC (bv,o))]) H fun r H'=>r = .bool (decide ((q a).length < 32)) ∧ FrL lo (P a) H H' ∧ ∃ L',FrD lo L L' H H' ∧ PM lo H' P L' (upd q a (if (q a).length < 32 then q a ++ [(bv,o)] else q a)):=by
 refine zd1 ?_;unfold zcp uL uS uT uNFM uNF uB uO uc;have h1:=hQ.blk a ha;have h2:=hQ.app a ha;have hlow:=hQ.low a ha;have htop:=hQ.top;have hle:=hQ.le a ha;have vc:=hb.cells1;have vo:=hb.okc;refine zan (zaH (by simp [oC,V.okc,vo]) ?_);rw [zai];have s0:=Grow.new H ⟨tyOu,oC (bv,o),none⟩;have g0:(H.new ⟨tyOu,oC (bv,o),none⟩).get H.next = some ⟨tyOu,oC (bv,o),none⟩:=zad _ _;have n0:(H.new ⟨tyOu,oC (bv,o),none⟩).next = H.next + 1:=zag _ _;have k0:=hQ.grow s0;generalize hP:P a = p at *;generalize hq:H.next = k at *;generalize H.new _ = H0 at *;have h10:=(s0.same p (by omega)).trans h1;have hvl:=h2.lc.vlen;by_cases h32:(q a).length < 32
 ·have d:decide ((32:Int) ≤ (((q a).length:Nat):Int)) = false:=decide_eq_false (by omega);have d':decide (32 ≤ (q a).length) = false:=decide_eq_false (by omega);have l3:ldc (some 3) (oC (bv,o)) 0 = some (.agg (oC (bv,o))):=rfl;rw [decide_eq_true h32,if_pos h32];have s1:=Grow.new H0 ⟨tyOu,oC (bv,o),none⟩;have n1:(H0.new ⟨tyOu,oC (bv,o),none⟩).next = H0.next + 1:=zag _ _;have h11:=(s1.same p (by omega)).trans h10;have h21:=(h2.atS (Grow.atS (s0.trans s1) []) (by simp));have hya:=zl0 (H:=H0) (ty:=tyOu) (o:=none) (cap:=.fix 1) (n:=1) (e:=3) (id:=H0.next) rfl (cs:=oC (bv,o)) rfl;have ef:(if (oC (bv,o)).length = 3 then some (splice [.int .i64 0,.int .i64 0,.nils] 0 (oC (bv,o))) else none) = some (oC (bv,o)):=rfl;have ok3:(V.agg (oC (bv,o))).okc = true:=by simp [oC,V.okc,vo]
  simp (disch:=first | omega | (simp only [RY] <;> omega) | decide) only [↓RD,RZ,eq_self,Int.reduceToNat,Int.reduceAdd,Nat.reduceAdd,Nat.reduceSub,Nat.reduceMul,Nat.reduceLeDiff,h10,hvl,d,d',g0,l3,ok3,ef];rw [zb8];generalize H0.new _ = H1 at *;refine zo2 (bytes:=40) h21 (by omega) hya rfl (by omega) (by omega) fun x H2 hx st2=>?_;have n2:=st2.next;have o2:=h2.lc.own;have o3:=hx.lc.own;have h12:H2.get p = some ⟨tyPo,[.int .i64 32,L a],none⟩:=(st2.same p (by omega) fun e=>by have:=(o2 p (by simpa [zd2] using e)).1; omega).trans h11;have xc:=hx.lc.cells1;have xo:=hx.lc.okc;simp (disch:=first | omega | (simp only [RY] <;> omega) | decide) only [↓RD,RZ,eq_self,Int.reduceToNat,Int.reduceAdd,Nat.reduceAdd,Nat.reduceSub,Nat.reduceMul,Nat.reduceLeDiff,h12,xc,xo];have a3:AtS [p] H2 (H2.set p (some ⟨tyPo,[.int .i64 32,x],none⟩)):=AtS.set _ (by simp) _;have hxp:∀ i,x.pid = some i → i ∉ [p]:=fun i hi e=>by
   have:=(o3 i hi).1;simp only [List.mem_singleton] at e;omega
  have hsame:∀ i,i < H.next → i ≠ p → (L a).pid ≠ some i → (H2.set p (some ⟨tyPo,[.int .i64 32,x],none⟩)).get i = H.get i:=fun i hi hp hl=>by
   rw [zaD _ _ hp,st2.same i (by omega) (fun e=>hl (by simpa [zd2] using e)),s1.same i (by omega),s0.same i (by omega)]
  have hxo:∀ i,x.pid = some i → H.next ≤ i ∨ (L a).pid = some i:=fun i hi=>by
   rcases st2.own i (by simp [hi]) with h | h
   ·exact .inr (by simpa [zd2] using h)
   ·exact .inl (by omega)
  have hby:∀ {v:V} {l:List Nat},By lo H v l → (∀ b i,b < 64 → v.pid = some i → (L b).pid ≠ some i) → By lo (H2.set p (some ⟨tyPo,[.int .i64 32,x],none⟩)) v l:=fun {v l} hv hd =>
   ⟨by rw [zdv fun i hi=>hsame i (by have:=(hv.own i hi).2; omega) (by have:=(hv.own i hi).1; omega) (hd a i ha hi)]; exact hv.rc,fun i hi=>⟨(hv.own i hi).1,by rw [zbR]; have:=(hv.own i hi).2; omega⟩,hv.cap⟩
  have hnx:∀ {v:V} {l:List Nat},By lo H v l → (∀ b i,b < 64 → v.pid = some i → (L b).pid ≠ some i) → ∀ i,v.pid = some i → x.pid ≠ some i:=fun {v l} hv hd i hi hxi=>by
   rcases hxo i hxi with h | h
   ·have:=(hv.own i hi).2; omega
   ·exact hd a i ha hi h
  have hall:∀ e ∈ q a ++ [(bv,o)],By lo H e.1 e.2.b ∧ ∀ b i,b < 64 → e.1.pid = some i → (L b).pid ≠ some i:=fun e he=>by
   rcases List.mem_append.1 he with he | he
   ·exact hQ.each a ha e he
   ·simp only [List.mem_singleton] at he;subst he;exact ⟨hb,hsep⟩
  refine ⟨⟨by rw [zbR]; omega,fun i hi hp=>?_⟩,upd L a x,⟨by rw [zbR]; omega,fun i hl hi hn=>hsame i (by omega) (by omega) (hn a ha),fun b i hb' hi=>?_⟩,hQ.post ha (by rw [zbR]; omega) (by rw [hP]; exact hsame) (by rw [hP]; exact zaY _ _ _) ?_ (by rw [List.length_append]; show (q a).length + 1 ≤ 32; omega) hxo fun e he=>⟨hby (hall e he).1 (hall e he).2,hnx (hall e he).1 (hall e he).2,fun b i hb' hi _=>(hall e he).2 b i hb' hi⟩⟩
  ·exact hsame i (by omega) hp fun e=>by have:=(o2 i e).1; omega
  ·by_cases hba:b = a
   ·subst hba;rw [zaB] at hi;rcases hxo i hi with h | h
    ·exact .inl (by omega)
    ·exact .inr ⟨b,hb',h⟩
   ·rw [upd_ne _ _ hba] at hi;exact .inr ⟨b,hb',hi⟩
  ·have e:((q a ++ [(bv,o)]).map oC).flatten = ((q a).map oC).flatten ++ oC (bv,o):=by simp
   rw [e,List.length_append];exact hx.atS a3 hxp
 ·have d:decide ((32:Int) ≤ (((q a).length:Nat):Int)) = true:=decide_eq_true (by omega);have d':decide (32 ≤ (q a).length) = true:=decide_eq_true (by omega);rw [decide_eq_false h32,if_neg h32,upd_same];simp (disch:=omega) only [↓RD,RZ,h10,hvl,d,d'];exact ⟨s0.frL p (by omega),L,s0.frD lo L,k0⟩
end Go.Ax.SU
/- De3 -/
namespace Go.Ax.SU
open Go.Ax
structure Rm where
 t:Tb
 ep:Int
 op:Bool
 nx:Int
 nd:Int
 hv:Int
 bn:Int
 se:List Int
 si:List Int
 ov:Bool
def kC (r:Rm):List V:=[.int .i64 r.ep,.bool r.op,.int .i64 r.nx,.int .i64 r.nd,.int .i64 r.hv,.int .i64 r.bn]
theorem zix (r:Rm):(kC r).length = 6:=rfl
def rC (r:Rm):List V:=tC r.t ++ (kC r ++ (r.se.map (.int .i64) ++ (r.si.map (.int .i64) ++ [.bool r.ov])))
structure RmO (r:Rm):Prop where
 t:TbO r.t
 se:r.se.length = 8
 si:r.si.length = 8
theorem ldc_at {n i:Nat} {a b c:List V} (ha:a.length = i) (hb:b.length = n):ldc (some n) (a ++ (b ++ c)) i = some (.agg b):=by
 simp only [ldc];rw [if_pos (by simp [ha,hb]),List.drop_left' ha,List.take_left' hb]
theorem zbQ {r:Rm} (h:RmO r):(rC r).length = 39:=by
 simp only [rC,kC,List.length_append,zbU h.t,List.length_map,h.se,h.si,List.length_cons,List.length_nil]
theorem zif (r:Rm):(V.agg (rC r)).okc = true:=by simp [V.okc,rC,kC,tC]
theorem zf8 {r:Rm} (h:RmO r):ldc (some 39) (rC r) 0 = some (.agg (rC r)):=by
 have:=zbQ h;simp only [ldc];rw [if_pos (by omega),List.drop_zero,List.take_of_length_le (by omega)]
theorem rC_t {r:Rm} (h:RmO r):ldc (some 16) (rC r) 0 = some (.agg (tC r.t)):=ldc_at (a:=[]) rfl (zbU h.t)
theorem rC_k {r:Rm} (h:RmO r):ldc (some 6) (rC r) 16 = some (.agg (kC r)):=ldc_at (zbU h.t) rfl
theorem rC_u {r:Rm} (h:RmO r):ldc (some 8) (rC r) 0 = some (.agg (r.t.u.map .bool)):=by
 have e:rC r = r.t.u.map .bool ++ (r.t.a.map (.int .i64) ++ (kC r ++ (r.se.map (.int .i64) ++ (r.si.map (.int .i64) ++ [.bool r.ov])))):=by
  unfold rC tC;rw [List.append_assoc]
 rw [e];have:=h.t.u8;simp only [ldc];rw [if_pos (by simp [this]),List.drop_zero,List.take_left' (by rw [List.length_map]; exact this)]
theorem zc0 {i j:Nat} {a b:List V} (ha:a.length = i):(a ++ b)[i + j]? = b[j]?:=by
 rw [List.getElem?_append_right (by omega),ha,Nat.add_sub_cancel_left]
theorem rC_a1 {r:Rm} (h:RmO r) {i:Nat} (hi:i < 8):(rC r)[8 + i]? = some (.int .i64 (r.t.aG i)):=by
 unfold rC;rw [List.getElem?_append_left (by rw [zbU h.t]; omega)];unfold tC;rw [zc0 (by rw [List.length_map,h.t.u8]),List.getElem?_map,List.getElem?_eq_getElem (by rw [h.t.a8]; exact hi)];unfold Tb.aG;rw [List.getD_eq_getElem?_getD,List.getElem?_eq_getElem (by rw [h.t.a8]; exact hi)];rfl
theorem rC_k1 {r:Rm} (h:RmO r) (i:Nat) (hi:i < 6):(rC r)[16 + i]? = (kC r)[i]?:=by
 unfold rC;rw [zc0 (zbU h.t),List.getElem?_append_left (by exact hi)]
theorem rC_se {r:Rm} (h:RmO r) {i:Nat} (hi:i < 8):(rC r)[22 + i]? = some (.int .i64 (r.se.getD i 0)):=by
 unfold rC;rw [show 22 + i = 16 + (6 + i) by omega,zc0 (zbU h.t),zc0 (zix r),List.getElem?_append_left (by rw [List.length_map,h.se]; exact hi),List.getElem?_map,List.getElem?_eq_getElem (by rw [h.se]; exact hi),List.getD_eq_getElem?_getD,List.getElem?_eq_getElem (by rw [h.se]; exact hi)];rfl
theorem rC_si {r:Rm} (h:RmO r) {i:Nat} (hi:i < 8):(rC r)[30 + i]? = some (.int .i64 (r.si.getD i 0)):=by
 unfold rC;rw [show 30 + i = 16 + (6 + (8 + i)) by omega,zc0 (zbU h.t),zc0 (zix r),zc0 (by rw [List.length_map,h.se]),List.getElem?_append_left (by rw [List.length_map,h.si]; exact hi),List.getElem?_map,List.getElem?_eq_getElem (by rw [h.si]; exact hi),List.getD_eq_getElem?_getD,List.getElem?_eq_getElem (by rw [h.si]; exact hi)];rfl
theorem rC_ov {r:Rm} (h:RmO r):(rC r)[38]? = some (.bool r.ov):=by
 unfold rC;rw [show 38 = 16 + (6 + (8 + (8 + 0))) by omega,zc0 (zbU h.t),zc0 (zix r),zc0 (by rw [List.length_map,h.se]),zc0 (by rw [List.length_map,h.si])];rfl
structure Kd where
 lo:Nat
 d:Nat
 C:Nat
 cs:Nat
 P:Nat → Nat
structure DA (K:Kd) (H:Heap) (L:Nat → V) (D:List V) (rm:Nat → Rm) (q:Nat → List (V × Ot)) (ns:List Nat) (nw:Int):Prop where
 blk:H.get K.d = some ⟨tyDk,D,none⟩
 len:D.length = 1535
 rms:∀ i,i < 4 → (D.drop (i * 367)).take 39 = rC (rm i) ∧ RmO (rm i)
 now:D[1468]? = some (.int .i64 nw)
 po:∀ a,a < 64 → D[1470 + a]? = some (.ptr (K.P a) 0)
 co:D[1534]? = some (.ptr K.C 0)
 cm:Cm H K.C K.cs ns
 pm:PM K.lo H K.P L q
 dl:K.d < K.lo
 Cl:K.C < K.lo
 cl:K.cs < K.lo
 dc:K.d ≠ K.cs
 Cc:K.C ≠ K.cs
 dC:K.d ≠ K.C
 Pd:∀ a,a < 64 → K.P a ≠ K.d ∧ K.P a ≠ K.C ∧ K.P a ≠ K.cs
theorem DA.tb {K:Kd} {H:Heap} {L:Nat → V} {D:List V} {rm:Nat → Rm} {q:Nat → List (V × Ot)} {ns:List Nat} {nw:Int} (h:DA K H L D rm q ns nw):DkH H K.d D (fun i=>(rm i).t):=by
 refine ⟨h.blk,h.len,fun i hi=>⟨?_,(h.rms i hi).2.t⟩⟩;obtain ⟨h1,h2⟩:=h.rms i hi;have hl:=h.len;simp only [ldc];rw [if_pos (by omega)];have:(D.drop (i * 367)).take 16 = ((D.drop (i * 367)).take 39).take 16:=by rw [List.take_take]; rfl
 rw [this,h1];unfold rC;rw [List.take_left' (zbU h2.t)]
theorem DA.grow {K:Kd} {H H':Heap} {L:Nat → V} {D:List V} {rm:Nat → Rm} {q:Nat → List (V × Ot)} {ns:List Nat} {nw:Int} (h:DA K H L D rm q ns nw) (s:Grow H H'):DA K H' L D rm q ns nw:=by
 have h1:=h.pm.top;have h2:=h.dl;have h3:=h.Cl;have h4:=h.cl;obtain ⟨cap,g1⟩:=h.cm.hd;obtain ⟨o,g2⟩:=h.cm.bd;exact { h with blk:=(s.same K.d (by omega)).trans h.blk,cm:=⟨⟨cap,(s.same K.C (by omega)).trans g1⟩,⟨o,(s.same K.cs (by omega)).trans g2⟩,h.cm.len,h.cm.small⟩,pm:=h.pm.grow s }
theorem DA.one {K:Kd} {H H':Heap} {L:Nat → V} {D:List V} {rm:Nat → Rm} {q:Nat → List (V × Ot)} {ns ns':List Nat} {nw:Int} (h:DA K H L D rm q ns nw) (s:AtS [K.cs] H H') (hc:Cm H' K.C K.cs ns'):DA K H' L D rm q ns' nw:=by
 have h1:=h.pm.top;have h2:=h.dl;exact { h with blk:=(s.same K.d (by omega) (by simp; exact h.dc)).trans h.blk,cm:=hc,pm:=h.pm.atS s (fun i hi=>by simp only [List.mem_singleton] at hi; subst hi; exact ⟨h.cl,fun a ha e=>(h.Pd a ha).2.2 e.symm⟩) }
theorem DA.post {K:Kd} {H H':Heap} {L L':Nat → V} {D:List V} {rm:Nat → Rm} {q q':Nat → List (V × Ot)} {ns:List Nat} {nw:Int} {a:Nat} (h:DA K H L D rm q ns nw) (ha:a < 64) (s:FrL K.lo (K.P a) H H') (hq:PM K.lo H' K.P L' q'):DA K H' L' D rm q' ns nw:=by
 obtain ⟨cap,g1⟩:=h.cm.hd;obtain ⟨o,g2⟩:=h.cm.bd;obtain ⟨p1,p2,p3⟩:=h.Pd a ha;exact { h with blk:=(s.same K.d h.dl (Ne.symm p1)).trans h.blk,cm:=⟨⟨cap,(s.same K.C h.Cl (Ne.symm p2)).trans g1⟩,⟨o,(s.same K.cs h.cl (Ne.symm p3)).trans g2⟩,h.cm.len,h.cm.small⟩,pm:=hq }
def DW (K:Kd) (H:Heap) (L:Nat → V) (rm:Nat → Rm) (Q:Nat → List Ot) (ns:List Nat) (nw:Int):Prop:=∃ D q,DA K H L D rm q ns nw ∧ ∀ b,(q b).map (·.2) = Q b
theorem DW.grow {K:Kd} {H H':Heap} {L:Nat → V} {rm:Nat → Rm} {Q:Nat → List Ot} {ns:List Nat} {nw:Int} (h:DW K H L rm Q ns nw) (s:Grow H H'):DW K H' L rm Q ns nw:=by
 obtain ⟨D,q,h1,h2⟩:=h;exact ⟨D,q,h1.grow s,h2⟩
theorem DW.lo {K:Kd} {H:Heap} {L:Nat → V} {rm:Nat → Rm} {Q:Nat → List Ot} {ns:List Nat} {nw:Int} (h:DW K H L rm Q ns nw):K.lo ≤ H.next:=by
 obtain ⟨D,q,h1,h2⟩:=h;exact h1.pm.top
theorem zl5 {q:Nat → List (V × Ot)} {Q:Nat → List Ot} (h:∀ b,(q b).map (·.2) = Q b) (a:Nat) (l:List (V × Ot)):∀ b,((upd q a l) b).map (·.2) = (upd Q a (l.map (·.2))) b:=fun b=>by
 unfold upd;split
 ·rfl
 ·exact h b
theorem ia64 {d a:Nat} (ha:a < 64) {k:IntKind}:Ax.iaddr (some 64) 1 (.ptr d 1470) (.int k (a:Nat)) = some (.ptr d (1470 + a)):=by
 simp only [Ax.iaddr];rw [if_pos (by omega),Int.toNat_natCast,Nat.mul_one]
theorem zkX {lb a:Nat} {K:Kd} {H:Heap} {L:Nat → V} {rm:Nat → Rm} {Q:Nat → List Ot} {ns:List Nat} {nw:Int} {bv:V} {b:List Nat} (hh:DW K H L rm Q ns nw) (ha:a < 64) (kind:Int) (hb:By lb H bv b) (hbl:b.length ≤ 1000000) (hs:32 ≤ (Q a).length → ns.getD 10 0 + 1 < 4611686018427387904) :
  Ok (sem T zb5 [.ptr K.d 0,.int .i64 (a:Nat),.int .i64 kind,bv]) H fun r H'=>r = .tup [] ∧ ∃ L',FrD K.lo L L' H H' ∧ DW K H' L' rm (upd Q a (zj4 (Q a) ⟨(a:Nat),kind,b⟩)) (zj3 (Q a) ns) nw:=by
 refine zgW ?_;unfold zeU uL uM uNFM uNF uI uU uc;obtain ⟨D,q,h,hQ⟩:=hh;have g:=h.blk;have hpo:=h.po a ha;have hco:=h.co;have htop:=h.pm.top;have hdl:=h.dl;have hia:=fun {k}=>@ia64 K.d a ha k;simp (disch:=omega) only [↓RD,RZ,g,hia,hpo];refine zae (znd hb (by omega)) ?_;rintro v H1 ⟨hv,s1⟩;have h1:=h.grow s1;have e1:=s1.same K.d (by omega);have vc:=hv.by.cells1;have vo:=hv.by.okc;simp (disch:=first | omega | (simp only [RY] <;> omega) | decide) only [↓RD,RZ,eq_self,Int.reduceToNat,Int.reduceAdd,Nat.reduceAdd,Nat.reduceSub,Nat.reduceMul,Nat.reduceLeDiff,e1,vc,vo];refine zae (Add_a_ok (o:=⟨(a:Nat),kind,b⟩) h1.pm ha (hv.by.low htop) fun b i hb hi e=>?_) ?_
 ·have:=((h.pm.app b hb).lc.own i e).2;have:=(hv.by.own i hi).1;omega
 ·rintro _ H2 ⟨rfl,f2,L',d2,hq2⟩;have h2:=h1.post ha f2 hq2;have g2:=h2.blk;have d12:=(s1.frD K.lo L).trans d2;have hQa:=hQ a;have hle:(Q a).length = (q a).length:=by rw [← hQa,List.length_map]
  by_cases hl:(q a).length < 32
  ·have eE:zj4 (Q a) ⟨(a:Nat),kind,b⟩ = (q a ++ [(v,(⟨(a:Nat),kind,b⟩:Ot))]).map (·.2):=by unfold zj4; rw [hle,if_pos hl,List.map_append,hQa]; rfl
   have eN:zj3 (Q a) ns = ns:=by unfold zj3; rw [hle,if_pos hl]
   rw [decide_eq_true hl];rw [if_pos hl] at h2;rw [eE,eN];simp (disch:=omega) only [↓RD,RZ];exact ⟨rfl,L',d12,D,_,h2,zl5 hQ a _⟩
  ·have eE:zj4 (Q a) ⟨(a:Nat),kind,b⟩ = (q a).map (·.2):=by unfold zj4; rw [hle,if_neg hl,hQa]
   have eN:zj3 (Q a) ns = ns.set 10 (ns.getD 10 0 + 1):=by unfold zj3; rw [hle,if_neg hl]
   rw [decide_eq_false hl];rw [if_neg hl] at h2;rw [eE,eN];simp (disch:=omega) only [↓RD,RZ,g2,hco];refine zae (One_ok (i:=10) h2.cm h2.Cc (by decide) (hs (by omega))) ?_;rintro _ H3 ⟨rfl,a3,hc3⟩;simp (disch:=omega) only [↓RD,RZ];exact ⟨rfl,L',d12.trans (FrD.low a3 L' fun i hi=>by simp only [List.mem_singleton] at hi; subst hi; exact h.cl),D,_,h2.one a3 hc3,zl5 hQ a _⟩
theorem say_a_ok {lb a:Nat} {K:Kd} {H:Heap} {L:Nat → V} {rm:Nat → Rm} {Q:Nat → List Ot} {ns:List Nat} {nw:Int} {bv:V} {x:Nt} (h:DW K H L rm Q ns nw) (ha:a < 64) (hb:By lb H bv x.b) (hk:Pl3 x) (hs:ns.getD 10 0 + 1 < 4611686018427387904) :
  Ok (sem T zbe [.ptr K.d 0,.int .i64 (a:Nat),.agg (nC x bv)]) H fun r H'=>r = .tup [] ∧ ∃ L',FrD K.lo L L' H H' ∧ DW K H' L' rm (upd Q a (sayE (Q a) a x)) (sayN (Q a) ns x) nw:=by
 refine zeR ?_;unfold zdI uS uE uB uO uc;have vc:=hb.cells1;have vo:=hb.okc;refine zan (zaH (by simp [nC,V.okc,vo]) ?_);rw [zai];have s0:=Grow.new H ⟨zac,nC x bv,none⟩;have g0:(H.new ⟨zac,nC x bv,none⟩).get H.next = some ⟨zac,nC x bv,none⟩:=zad _ _;generalize hq:H.next = q at *;generalize H.new _ = H0 at *;have l0:ldc (some 7) (nC x bv) 0 = some (.agg (nC x bv)):=rfl;simp (disch:=omega) only [↓RD,RZ,g0,l0];refine zae (zot (hb.ext s0) hk) ?_;rintro r1 H1 ⟨s1,⟨hg,rfl⟩ | ⟨hg,v,rfl,hv⟩⟩
 ·have e1:sayE (Q a) a x = Q a:=by unfold sayE; rw [hg]; rfl
  have e2:sayN (Q a) ns x = ns:=by unfold sayN; rw [hg]; rfl
  rw [e1,e2,upd_same];simp (disch:=omega) only [↓RD,RZ];exact ⟨rfl,L,(s0.trans s1).frD _ _,h.grow (s0.trans s1)⟩
 ·have e1:sayE (Q a) a x = zj4 (Q a) ⟨(a:Nat),2,zaE x⟩:=by unfold sayE; rw [hg]; rfl
  have e2:sayN (Q a) ns x = zj3 (Q a) ns:=by unfold sayN; rw [hg]; rfl
  rw [e1,e2];have hl:=(ziA hg).2.2.2.2.2.2;simp (disch:=omega) only [↓RD,RZ];refine zae (zkX (h.grow (s0.trans s1)) ha 2 hv.by (by rw [zdu]; omega) fun _=>hs) ?_;rintro _ H2 ⟨rfl,L',d2,h2⟩;simp (disch:=omega) only [↓RD,RZ];exact ⟨rfl,L',((s0.trans s1).frD _ _).trans d2,h2⟩
theorem zo6 {a:Nat} {K:Kd} {H:Heap} {L:Nat → V} {rm:Nat → Rm} {Q:Nat → List Ot} {ns:List Nat} {nw:Int} (h:DW K H L rm Q ns nw) (ha:a < 64) (e k:Int) (hs:ns.getD 10 0 + 1 < 4611686018427387904) :
  Ok (sem T zbX [.ptr K.d 0,.int .i64 (a:Nat),.int .i64 e,.int .i64 k]) H fun r H'=>r = .tup [] ∧ ∃ L',FrD K.lo L L' H H' ∧ DW K H' L' rm (upd Q a (sayE (Q a) a (noX e k))) (sayN (Q a) ns (noX e k)) nw:=by
 refine zin ?_;unfold zfL uL uc;simp (disch:=first | omega | (simp only [RY] <;> omega) | decide) only [↓RD,RZ,eq_self,Int.reduceToNat,Int.reduceAdd,Nat.reduceAdd,Nat.reduceSub,Nat.reduceMul,Nat.reduceLeDiff];refine zae (say_a_ok (x:=noX e k) h ha (Lc.nil:By 0 H .nils []) ⟨by show (18:Int) ≠ 17; decide,by show (18:Int) ≠ 19; decide,by show (18:Int) ≠ 20; decide⟩ hs) ?_;rintro _ H1 ⟨rfl,L',d1,h1⟩;simp (disch:=omega) only [↓RD,RZ];exact ⟨rfl,L',d1,h1⟩
end Go.Ax.SU
/- De4 -/
namespace Go.Ax.SU
open Go.Ax
structure KG (r:Rm):Prop where
 e0:0 ≤ r.ep
 e1:r.ep ≤ 65535
 cl:r.op = false → r.nx = 0 ∧ r.nd = 0 ∧ r.hv = 0 ∧ r.bn = 0
 on:r.op = true → r.ep < r.nx ∧ r.nx ≤ 65535 ∧ 1 ≤ r.nd ∧ r.nd ≤ 255 ∧ Go.bits .andNot .i64 r.hv r.nd = 0 ∧ r.hv ≠ r.nd
theorem zlu {H:Heap} {r:Rm} (h:KG r):Ok (sem T zcz [.agg (kC r)]) H fun x H'=>x = .bool true ∧ Grow H H':=by
 refine zkk ?_;unfold zhE uL uS uFM uB uG uH uO uc;have hok:(V.agg (kC r)).okc = true:=by simp [V.okc,kC]
 refine zan (zaH hok ?_);rw [zai];have s0:=Grow.new H ⟨zar,kC r,none⟩;have g0:(H.new ⟨zar,kC r,none⟩).get H.next = some ⟨zar,kC r,none⟩:=zad _ _;generalize hq:H.next = q at *;generalize H.new _ = H0 at *;have d1:decide (r.ep < 0) = false:=decide_eq_false (by have:=h.e0; omega);have d2:decide (65535 < r.ep) = false:=decide_eq_false (by have:=h.e1; omega);have k0:(kC r)[0]? = some (.int .i64 r.ep):=rfl;have k1:(kC r)[1]? = some (.bool r.op):=rfl;have k2:(kC r)[2]? = some (.int .i64 r.nx):=rfl;have k3:(kC r)[3]? = some (.int .i64 r.nd):=rfl;have k4:(kC r)[4]? = some (.int .i64 r.hv):=rfl;have kk:ldc (some 6) (kC r) 0 = some (.agg (kC r)):=rfl;cases ho:r.op with
 | false =>
  rw [ho] at k1;obtain ⟨z1,z2,z3,z4⟩:=h.cl ho;have e:Ax.eqr (.st [.int,.bool,.int,.int,.int,.int]) false (.agg (kC r)) (.agg [.int .i64 r.ep,.bool false,.int .i64 0,.int .i64 0,.int .i64 0,.int .i64 0]) = some (.bool true):=by
   unfold kC;rw [z1,z2,z3,z4,ho];simp only [Ax.eqr,eqv,zaI,if_true,Option.map_some,beq_self_eq_true,Bool.true_and,Bool.and_true,Bool.false_eq_true,if_false]
  have eb:Ax.build [.int .i64 0,.bool false,.int .i64 0,.int .i64 0,.int .i64 0,.int .i64 0] [(0,1,.int .i64 r.ep)] = some (.agg [.int .i64 r.ep,.bool false,.int .i64 0,.int .i64 0,.int .i64 0,.int .i64 0]):=rfl;simp (disch:=first | omega | (simp only [RY] <;> omega) | decide) only [↓RD,RZ,eq_self,Int.reduceToNat,Int.reduceAdd,Nat.reduceAdd,Nat.reduceSub,Nat.reduceMul,Nat.reduceLeDiff,g0,k0,k1,kk,d1,d2,eb,e,Bool.not_false];exact s0
 | true =>
  rw [ho] at k1;obtain ⟨z1,z2,z3,z4,z5,z6⟩:=h.on ho;have b1:decide (r.ep < r.nx) = true:=decide_eq_true z1;have b2:decide (r.nx ≤ 65535) = true:=decide_eq_true z2;have b3:decide (1 ≤ r.nd) = true:=decide_eq_true z3;have b4:decide (r.nd ≤ 255) = true:=decide_eq_true z4;have b5:(r.hv != r.nd) = true:=by simpa using z6
  have ea:Ax.bin .andNot (.int .i64 r.hv) (.int .i64 r.nd) = some (.int .i64 0):=by rw [zcS,z5]
  simp (disch:=omega) only [↓RD,RZ,g0,k0,k1,k2,k3,k4,d1,d2,b1,b2,b3,b4,b5,ea,Bool.not_true];exact s0
def maskN (t:Tb) (j:Nat):Nat:=(List.range j).foldl (fun m i=>if t.uG i then m ||| 2 ^ i else m) 0
def zdy (t:Tb):Nat:=maskN t 8
theorem zg1 (t:Tb) (j:Nat):maskN t (j + 1) = if t.uG j then maskN t j ||| 2 ^ j else maskN t j:=by
 unfold maskN;rw [List.range_succ,List.foldl_append];rfl
theorem zgi (t:Tb) (j:Nat):maskN t j < 2 ^ j:=by
 induction j with
 | zero=>exact Nat.zero_lt_one
 | succ j ih =>
  rw [zg1];have h2:2 ^ (j + 1) = 2 ^ j * 2:=Nat.pow_succ 2 j;split
  ·exact Nat.or_lt_two_pow (by omega) (by omega)
  ·omega
theorem uG_at {t:Tb} (h:TbO t) {i:Nat} (hi:i < 8):Ax.index 8 1 none (.agg (t.u.map .bool)) (.int .i64 (i:Nat)) = some (.bool (t.uG i)):=by
 simp only [Ax.index];rw [if_pos (by omega),Int.toNat_natCast,Nat.mul_one];simp only [ldc];rw [List.getElem?_map,List.getElem?_eq_getElem (by rw [h.u8]; exact hi)];unfold Tb.uG;rw [List.getD_eq_getElem?_getD,List.getElem?_eq_getElem (by rw [h.u8]; exact hi)];rfl
theorem tC_u8 {t:Tb} (h:TbO t):ldc (some 8) (tC t) 0 = some (.agg (t.u.map .bool)):=by
 have:=h.u8;unfold tC;simp only [ldc];rw [if_pos (by simp [this]),List.drop_zero,List.take_left' (by rw [List.length_map]; exact this)]
theorem zlm {H:Heap} {t:Tb} (ht:TbO t) (hg:zc6 t = true):Ok (sem T zcw [.agg (tC t)]) H fun x H'=>x = .int .i64 (zdy t:Nat) ∧ Grow H H':=by
 refine zke ?_;unfold zhy uL uS uF uO uc ug;refine zan (zaH (zkY t) ?_);rw [zai];have s0:=Grow.new H ⟨zaf,tC t,none⟩;have g0:(H.new ⟨zaf,tC t,none⟩).get H.next = some ⟨zaf,tC t,none⟩:=zad _ _;have n0:(H.new ⟨zaf,tC t,none⟩).next = H.next + 1:=zag _ _;generalize hq:H.next = q at *;generalize H.new _ = H0 at *;have hA:=zjy ht;have hU:=tC_u8 ht;simp (disch:=omega) only [↓RD,RZ,g0,hA];refine zae (zgo ht) ?_;rintro _ H1 ⟨rfl,s1⟩;rw [hg];have g1:=(s1.same q (by omega)).trans g0;simp (disch:=omega) only [↓RD,RZ,Bool.not_true,g1,hU];refine zaL (Q:=fun r H'=>H' = H1 ∧ r = .ex 0 [.int .i64 (zdy t:Nat)]) ?_ ?_
 ·refine zbM (fun j L H'=>L = [.int .i64 (maskN t j:Nat),.int .i64 (j:Nat)] ∧ H' = H1) 8 ?_ ?_ ?_
  ·exact ⟨rfl,rfl⟩
  ·rintro j _ H2 hj ⟨rfl,rfl⟩;have d1:decide (((j:Nat):Int) < 8) = true:=decide_eq_true (by omega);have d1':decide (j < 8) = true:=decide_eq_true hj;have hx:=uG_at ht hj;have w1:IntKind.i64.wrap (((j:Nat):Int) + 1) = ((j + 1:Nat):Int):=by rw [wrap_i64 (by omega) (by omega)]; omega
   have hm:=zg1 t j;have hlt:=zgi t j;have hp:2 ^ j ≤ 2 ^ 7:=Nat.pow_le_pow_right (by decide) (by omega);unfold zd6 uL uB uc ug;cases hb:t.uG j with
   | false =>
    rw [hb] at hx hm;simp (disch:=omega) only [↓RD,RZ,d1,d1',hx,w1];rw [hm]; rfl
   | true =>
    rw [hb] at hx hm;rw [if_pos rfl] at hm;have e1:Ax.bin .shl (.int .i64 1) (.int .i64 (j:Nat)) = some (.int .i64 (2 ^ j:Nat)):=by
     have:j = 0 ∨ j = 1 ∨ j = 2 ∨ j = 3 ∨ j = 4 ∨ j = 5 ∨ j = 6 ∨ j = 7:=by omega
     rcases this with rfl | rfl | rfl | rfl | rfl | rfl | rfl | rfl <;> rfl
    have e2:Ax.bin .or (.int .i64 (maskN t j:Nat)) (.int .i64 (2 ^ j:Nat)) = some (.int .i64 (maskN t (j + 1):Nat)):=by
     rw [hm];have:=@zmZ ((maskN t j:Nat):Int) ((2 ^ j:Nat):Int) (by omega) (by omega) (by omega) (by omega);rw [this,Int.toNat_natCast,Int.toNat_natCast]
    simp (disch:=omega) only [↓RD,RZ,d1,d1',hx,e1,e2,w1]
  ·rintro _ H2 ⟨rfl,rfl⟩;unfold zd6 uL uB uc ug;simp (disch:=omega) only [↓RD,RZ];rfl
 ·rintro _ H2 ⟨rfl,rfl⟩;simp (disch:=omega) only [↓RD,RZ];exact s0.trans s1
end Go.Ax.SU
/- De5 -/
namespace Go.Ax.SU
open Go.Ax
structure RmG (r:Rm):Prop where
 o:RmO r
 k:KG r
 t:zc6 r.t = true
 z:∀ i,i < 8 → r.t.uG i = false → r.se.getD i 0 = 0 ∧ r.si.getD i 0 = 0
 s:∀ i,i < 8 → 0 ≤ r.si.getD i 0 ∧ r.si.getD i 0 ≤ r.ep
 m:r.op = true → Go.bits .andNot .i64 r.nd (zdy r.t:Nat) = 0
 v:r.ov = true → zdy r.t = 0
theorem ia8o {q o i:Nat} (hi:i < 8) {k:IntKind}:Ax.iaddr (some 8) 1 (.ptr q o) (.int k (i:Nat)) = some (.ptr q (o + i)):=by
 simp only [Ax.iaddr];rw [if_pos (by omega),Int.toNat_natCast,Nat.mul_one]
theorem zjJ {H:Heap} {r:Rm} (h:RmG r):Ok (sem T zc3 [.agg (rC r)]) H fun x H'=>x = .bool true ∧ Grow H H':=by
 refine zlf ?_;unfold ziP uL uS uF uFM uG uH uO uc;have ho:=h.o;refine zan (zaH (zif r) ?_);rw [zai];have s0:=Grow.new H ⟨zao,rC r,none⟩;have g0:(H.new ⟨zao,rC r,none⟩).get H.next = some ⟨zao,rC r,none⟩:=zad _ _;have n0:(H.new ⟨zao,rC r,none⟩).next = H.next + 1:=zag _ _;generalize hq:H.next = q at *;generalize H.new _ = H0 at *;have hT:=rC_t ho;have hK:=rC_k ho;have hU:=rC_u ho;simp (disch:=omega) only [↓RD,RZ,g0,hT];refine zae (zgo ho.t) ?_;rintro _ H1 ⟨rfl,s1⟩;rw [h.t];have g1:=(s1.same q (by omega)).trans g0;have n1:=s1.next;simp (disch:=omega) only [↓RD,RZ,Bool.not_true,g1,hK];rw [zb8];refine zae (zlu h.k) ?_;rintro _ H2 ⟨rfl,s2⟩;have g2:=(s2.same q (by omega)).trans g1;have n2:=s2.next;simp (disch:=omega) only [↓RD,RZ,Bool.not_true,g2,hU];refine zaL (Q:=fun x H'=>H' = H2 ∧ x = .ex 0 []) ?_ ?_
 ·refine zbM (fun j L H'=>L = [.int .i64 (j:Nat)] ∧ H' = H2) 8 ?_ ?_ ?_
  ·exact ⟨rfl,rfl⟩
  ·rintro j _ H3 hj ⟨rfl,rfl⟩;have d1:decide (((j:Nat):Int) < 8) = true:=decide_eq_true (by omega);have d1':decide (j < 8) = true:=decide_eq_true hj;have hx:=uG_at ho.t hj;have i22:=fun {k}=>@ia8o q 22 j hj k;have i30:=fun {k}=>@ia8o q 30 j hj k;have c22:=rC_se ho hj;have c30:=rC_si ho hj;have c16:(rC r)[16]? = some (.int .i64 r.ep):=rC_k1 ho 0 (by decide);obtain ⟨sa,sb⟩:=h.s j hj;have b1:decide (r.si.getD j 0 < 0) = false:=decide_eq_false (by omega);have b2:decide (r.ep < r.si.getD j 0) = false:=decide_eq_false (by omega);have w1:IntKind.i64.wrap (((j:Nat):Int) + 1) = ((j + 1:Nat):Int):=by rw [wrap_i64 (by omega) (by omega)]; omega
   unfold zeL uL uB uG uH uc ug;cases hb:r.t.uG j with
   | false =>
    rw [hb] at hx;obtain ⟨z1,z2⟩:=h.z j hj hb;have b3:(r.se.getD j 0 != 0) = false:=by rw [z1]; rfl
    have b4:(r.si.getD j 0 != 0) = false:=by rw [z2]; rfl
    simp (disch:=omega) only [↓RD,RZ,d1,d1',hx,i22,i30,g2,c22,c30,c16,b1,b2,b3,b4,w1,Bool.not_false]
   | true =>
    rw [hb] at hx;simp (disch:=omega) only [↓RD,RZ,d1,d1',hx,i22,i30,g2,c22,c30,c16,b1,b2,w1,Bool.not_true]
  ·rintro _ H3 ⟨rfl,rfl⟩;unfold zeL uL uB uG uH uc ug;simp (disch:=omega) only [↓RD,RZ]
 ·rintro _ _ ⟨rfl,rfl⟩;simp (disch:=omega) only [↓RD,RZ,g2,hT];refine zae (zlm ho.t h.t) ?_;rintro _ H3 ⟨rfl,s3⟩;have g3:=(s3.same q (by omega)).trans g2;have c17:(rC r)[17]? = some (.bool r.op):=rC_k1 ho 1 (by decide);have c19:(rC r)[19]? = some (.int .i64 r.nd):=rC_k1 ho 3 (by decide);have c38:=rC_ov ho;have hop:=h.m;have hov:=h.v;have fin:=((s0.trans s1).trans s2).trans s3;cases h1:r.op <;> cases h2:r.ov <;> rw [h1] at c17 <;> rw [h2] at c38
  ·simp (disch:=omega) only [↓RD,RZ,g3,c17,c38,Bool.not_false,Bool.not_true];exact fin
  ·have hm:=hov h2;have b5:(((zdy r.t:Nat):Int) == 0) = true:=by rw [hm]; rfl
   have b5':((zdy r.t:Nat) == 0) = true:=by rw [hm]; rfl
   simp (disch:=omega) only [↓RD,RZ,g3,c17,c38,b5,b5',Bool.not_false,Bool.not_true];exact fin
  ·have ea:Ax.bin .andNot (.int .i64 r.nd) (.int .i64 (zdy r.t:Nat)) = some (.int .i64 0):=by rw [zcS,hop h1]
   simp (disch:=omega) only [↓RD,RZ,g3,c17,c19,c38,ea,Bool.not_false,Bool.not_true];exact fin
  ·have ea:Ax.bin .andNot (.int .i64 r.nd) (.int .i64 (zdy r.t:Nat)) = some (.int .i64 0):=by rw [zcS,hop h1]
   have hm:=hov h2;have b5:(((zdy r.t:Nat):Int) == 0) = true:=by rw [hm]; rfl
   have b5':((zdy r.t:Nat) == 0) = true:=by rw [hm]; rfl
   simp (disch:=omega) only [↓RD,RZ,g3,c17,c19,c38,ea,b5,b5',Bool.not_false,Bool.not_true];exact fin
theorem zn3 {H:Heap} {r:Rm} (h:RmG r) (a:Int):Ok (sem T zdR [.agg (rC r),.int .i64 a]) H fun x H'=>x = (match inS r.t a with | some s=>.tup [.int .i64 (s:Nat),.int .i64 0] | none=>.tup [.int .i64 0,.int .i64 6]) ∧ Grow H H':=by
 refine zld ?_;unfold ziN uL uS uF uE uO uc;have ho:=h.o;refine zan (zaH (zif r) ?_);rw [zai];have s0:=Grow.new H ⟨zao,rC r,none⟩;have g0:(H.new ⟨zao,rC r,none⟩).get H.next = some ⟨zao,rC r,none⟩:=zad _ _;have n0:(H.new ⟨zao,rC r,none⟩).next = H.next + 1:=zag _ _;generalize hq:H.next = q at *;generalize H.new _ = H0 at *;have hA:=zf8 ho;have hT:=rC_t ho;simp (disch:=omega) only [↓RD,RZ,g0,hA];refine zae (zjJ h) ?_;rintro _ H1 ⟨rfl,s1⟩;have g1:=(s1.same q (by omega)).trans g0;simp (disch:=omega) only [↓RD,RZ,Bool.not_true,g1,hT];refine zae (zl3 ho.t a) ?_;rintro _ H2 ⟨rfl,s2⟩;have ei:(if zc6 r.t then zcF r.t a else none) = inS r.t a:=rfl;rw [ei];unfold fv;have fin:=(s0.trans s1).trans s2;cases hf:inS r.t a with
 | none =>
  simp (disch:=omega) only [↓RD,RZ,Bool.not_false];exact fin
 | some s =>
  simp (disch:=omega) only [↓RD,RZ,Bool.not_true];exact fin
def zdU (r:Rm) (a now:Int):Rm:=match inS r.t a with | some s=>{ r with se:=r.se.set s now } | none=>r
theorem zkZ {r:Rm} (h:RmO r) {i:Nat} (hi:i < 8) (x:Int):splice (rC r) (22 + i) [.int .i64 x] = rC { r with se:=r.se.set i x }:=by
 have hl:=zbQ h;have e0:splice (rC r) (22 + i) [V.int .i64 x] = (rC r).set (22 + i) (.int .i64 x):=by
  rw [List.set_eq_take_append_cons_drop,if_pos (by omega)];unfold splice;rw [List.append_assoc];rfl
 rw [e0];unfold rC;rw [show 22 + i = 16 + (6 + i) by omega];have st:∀ (a b:List V) (k:Nat) (x:V),(a ++ b).set (a.length + k) x = a ++ b.set k x:=fun a b k x=>by rw [List.set_append_right _ _ (by omega),Nat.add_sub_cancel_left]
 have s1:=st (tC r.t) (kC r ++ (r.se.map (.int .i64) ++ (r.si.map (.int .i64) ++ [.bool r.ov]))) (6 + i) (.int .i64 x);rw [zbU h.t] at s1;rw [s1];have s2:=st (kC r) (r.se.map (.int .i64) ++ (r.si.map (.int .i64) ++ [.bool r.ov])) i (.int .i64 x);rw [zix] at s2;rw [s2,List.set_append_left _ _ (by rw [List.length_map,h.se]; exact hi),List.map_set];rfl
theorem inS_lt {t:Tb} {a:Int} {s:Nat} (h:inS t a = some s):s < 8:=by
 unfold inS at h;split at h
 ·unfold zcF at h;have:=List.mem_of_find?_eq_some h;exact List.mem_range.1 this
 ·cases h
theorem zni {r:Rm} (h:RmO r) (a now:Int):RmO (zdU r a now):=by
 unfold zdU;split
 ·exact ⟨h.t,by dsimp only; rw [List.length_set]; exact h.se,h.si⟩
 ·exact h
def zRm:List V:=List.replicate 8 (V.bool false) ++ (List.replicate 8 (V.int .i64 0) ++ ([V.int .i64 0,V.bool false] ++ (List.replicate 20 (V.int .i64 0) ++ [V.bool false])))
theorem Alive_ok {H:Heap} {r:Rm} (h:RmG r) (a now:Int):Ok (sem T zdo [.agg (rC r),.int .i64 a,.int .i64 now]) H fun x H'=>(∃ e,x = .tup [.agg (rC (zdU r a now)),.int .i64 e]) ∧ Grow H H':=by
 refine zkh ?_;unfold zhB uS uT uF uE uB uI uO uc;have ho:=h.o;refine zan (zaH (zif r) ?_);rw [zai];have s0:=Grow.new H ⟨zao,rC r,none⟩;have g0:(H.new ⟨zao,rC r,none⟩).get H.next = some ⟨zao,rC r,none⟩:=zad _ _;have n0:(H.new ⟨zao,rC r,none⟩).next = H.next + 1:=zag _ _;generalize hq:H.next = q at *;generalize H.new _ = H0 at *;have hA:=zf8 ho;refine zan (zaH rfl ?_);rw [zai];have g1:=zad H0 (⟨zao,zRm,none⟩:Blk);have s1:=Grow.new H0 (⟨zao,zRm,none⟩:Blk);have n1:=zag H0 (⟨zao,zRm,none⟩:Blk);have hz:zRm.length = 39:=rfl;show Ok _ (H0.new ⟨zao,zRm,none⟩) _;generalize zRm = zs at *;generalize hq1:H0.next = q1 at *;generalize H0.new _ = H1 at *;have g01:=(s1.same q (by omega)).trans g0;simp (disch:=omega) only [↓RD,RZ,g01,hA];refine zae (zn3 h a) ?_;rintro _ H2 ⟨rfl,s2⟩;have g2:=(s2.same q (by omega)).trans g01;have g12:=(s2.same q1 (by omega)).trans g1;have n2:=s2.next;have hne:q ≠ q1:=by omega
 have fin:∀ b,Grow H (H2.set q1 b):=fun b=>AtS.new (s0.trans (s1.trans s2)) (AtS.set (S:=[q1]) H2 (by simp) b) (by simp; omega);have fin2:∀ b c,Grow H ((H2.set q b).set q1 c):=fun b c=>AtS.new (s0.trans (s1.trans s2)) ((AtS.set (S:=[q,q1]) H2 (by simp) b).trans (AtS.set _ (by simp) c)) (by simp; omega);have spl:∀ r',RmO r' → splice zs 0 (rC r') = rC r':=fun r' hr=>by
  unfold splice;rw [zbQ hr,List.take_zero,List.nil_append,List.drop_of_length_le (by omega),List.append_nil]
 cases hf:inS r.t a with
 | none =>
  have ea:zdU r a now = r:=by unfold zdU; rw [hf]
  rw [ea];have sp:=spl r ho;have ok:=zif r;have hl:=zbQ ho;simp (disch:=omega) only [↓RD,RZ,g2,g12,hA,sp,ok,hl];exact ⟨by omega,⟨6,rfl⟩,fin _⟩
 | some s =>
  have ea:zdU r a now = { r with se:=r.se.set s now }:=by unfold zdU; rw [hf]
  have hs:=inS_lt hf;have ho':=zni ho a now;have i22:=fun {k}=>@ia8o q 22 s hs k;have e22:=zkZ ho hs now;rw [ea] at ho' ⊢;generalize hr':({ r with se:=r.se.set s now }:Rm) = r' at *;have sp:=spl r' ho';have ok:=zif r';have hA':=zf8 ho';have hl:=zbQ ho;have hl':=zbQ ho';have hlt:22 + s < 39:=by omega
  simp (disch:=omega) only [↓RD,RZ,g2,g12,i22,e22,hA',sp,ok,hl,hl',hlt,hne];exact ⟨by omega,by omega,⟨0,rfl⟩,fin2 _ _⟩
end Go.Ax.SU
/- De6 -/
namespace Go.Ax.SU
open Go.Ax
theorem zjz {D xs:List V} {k:Nat} (h:k + xs.length ≤ D.length):(splice D k xs).length = D.length:=by
 unfold splice;rw [List.length_append,List.length_append,List.length_take,List.length_drop];omega
theorem zfr {D xs:List V} {k n:Nat} (h:k + xs.length ≤ D.length) (hn:n < k ∨ k + xs.length ≤ n):(splice D k xs)[n]? = D[n]?:=by
 unfold splice;rcases hn with hn | hn
 ·rw [List.append_assoc,List.getElem?_append_left (by rw [List.length_take]; omega),List.getElem?_take,if_pos hn]
 ·rw [List.getElem?_append_right (by rw [List.length_append,List.length_take]; omega),List.length_append,List.length_take,List.getElem?_drop];congr 1;omega
theorem zl7 {D xs:List V} {k:Nat} (h:k + xs.length ≤ D.length):((splice D k xs).drop k).take xs.length = xs:=by
 unfold splice;rw [List.append_assoc,List.drop_left' (by rw [List.length_take]; omega),List.take_left' rfl]
theorem zns {D xs:List V} {k m l:Nat} (h:k + xs.length ≤ D.length) (hm:m + l ≤ k ∨ k + xs.length ≤ m):((splice D k xs).drop m).take l = (D.drop m).take l:=by
 apply List.ext_getElem?;intro n;rw [List.getElem?_take,List.getElem?_take];split
 ·rw [List.getElem?_drop,List.getElem?_drop,zfr h (by omega)]
 ·rfl
theorem DA.room {K:Kd} {H:Heap} {L:Nat → V} {D:List V} {rm:Nat → Rm} {q:Nat → List (V × Ot)} {ns:List Nat} {nw:Int} (h:DA K H L D rm q ns nw) {i:Nat} (hi:i < 4) {r:Rm} (hr:RmO r) :
  DA K (H.set K.d (some ⟨tyDk,splice D (i * 367) (rC r),none⟩)) L (splice D (i * 367) (rC r)) (upd rm i r) q ns nw:=by
 have hl:=h.len;have hrl:=zbQ hr;have hb:i * 367 + (rC r).length ≤ D.length:=by omega
 obtain ⟨cap,g1⟩:=h.cm.hd;obtain ⟨o,g2⟩:=h.cm.bd;have a1:AtS [K.d] H (H.set K.d (some ⟨tyDk,splice D (i * 367) (rC r),none⟩)):=AtS.set _ (by simp) _;refine ⟨zaY _ _ _,by rw [zjz hb]; exact hl,fun j hj=>?_,by rw [zfr hb (by omega)]; exact h.now,fun a ha=>by rw [zfr hb (by omega)]; exact h.po a ha,by rw [zfr hb (by omega)]; exact h.co,⟨⟨cap,(zaD _ _ (Ne.symm h.dC)).trans g1⟩,⟨o,(zaD _ _ (Ne.symm h.dc)).trans g2⟩,h.cm.len,h.cm.small⟩,h.pm.atS a1 (fun k hk=>by simp only [List.mem_singleton] at hk; subst hk; exact ⟨h.dl,fun a ha e=>(h.Pd a ha).1 e.symm⟩),h.dl,h.Cl,h.cl,h.dc,h.Cc,h.dC,h.Pd⟩;by_cases hji:j = i
 ·subst hji;rw [zaB];have:=zl7 hb;rw [hrl] at this;exact ⟨this,hr⟩
 ·rw [upd_ne _ _ hji];exact ⟨(zns hb (by omega)).trans (h.rms j hj).1,(h.rms j hj).2⟩
theorem DA.r39 {K:Kd} {H:Heap} {L:Nat → V} {D:List V} {rm:Nat → Rm} {q:Nat → List (V × Ot)} {ns:List Nat} {nw:Int} (h:DA K H L D rm q ns nw) {i:Nat} (hi:i < 4):ldc (some 39) D (i * 367) = some (.agg (rC (rm i))):=by
 have hl:=h.len;simp only [ldc];rw [if_pos (by omega),(h.rms i hi).1]
theorem DA.r1 {K:Kd} {H:Heap} {L:Nat → V} {D:List V} {rm:Nat → Rm} {q:Nat → List (V × Ot)} {ns:List Nat} {nw:Int} (h:DA K H L D rm q ns nw) {i:Nat} (hi:i < 4) {k:Nat} (hk:k < 39):D[i * 367 + k]? = (rC (rm i))[k]?:=by
 rw [← (h.rms i hi).1,List.getElem?_take,if_pos hk,List.getElem?_drop]
theorem DA.rk {K:Kd} {H:Heap} {L:Nat → V} {D:List V} {rm:Nat → Rm} {q:Nat → List (V × Ot)} {ns:List Nat} {nw:Int} (h:DA K H L D rm q ns nw) {i:Nat} (hi:i < 4):ldc (some 6) D (i * 367 + 16) = some (.agg (kC (rm i))):=by
 have hl:=h.len;have h1:=rC_k (h.rms i hi).2;have h2:=zbQ (h.rms i hi).2;simp only [ldc] at h1 ⊢;rw [if_pos (by omega)] at h1 ⊢;rw [← (h.rms i hi).1,List.drop_take,List.take_take,List.drop_drop] at h1;exact h1
theorem heard_ok {K:Kd} {H:Heap} {L:Nat → V} {rm:Nat → Rm} {Q:Nat → List Ot} {ns:List Nat} {nw:Int} (hh:DW K H L rm Q ns nw) {i:Nat} (hi:i < 4) (hg:RmG (rm i)) (a:Int) :
  Ok (sem T zbr [.ptr K.d 0,.ptr K.d (i * 367),.int .i64 a]) H fun x H'=>x = .tup [] ∧ FrD K.lo L L H H' ∧ DW K H' L (upd rm i (zdU (rm i) a nw)) Q ns nw:=by
 refine zgd ?_;unfold zeq uS uT uNFM uNF uE;obtain ⟨D,q,h,hQ⟩:=hh;have g:=h.blk;have hr:=h.r39 hi;have hn:=h.now;simp (disch:=omega) only [↓RD,RZ,g,hr,hn];refine zae (Alive_ok hg a nw) ?_;rintro _ H1 ⟨⟨e,rfl⟩,s1⟩;have h1:=h.grow s1;have g1:=h1.blk;have ho:=zni hg.o a nw;have h2:=h1.room hi ho;have hl:=h1.len;have hrl:=zbQ ho;have ok:=zif (zdU (rm i) a nw);generalize hr':zdU (rm i) a nw = r' at *;simp (disch:=omega) only [↓RD,RZ,g1,ok,hl,hrl];exact ⟨by omega,rfl,(s1.frD _ _).trans (FrD.low (AtS.set (S:=[K.d]) H1 (by simp) _) L fun k hk=>by simp only [List.mem_singleton] at hk; subst hk; exact h.dl),_,_,h2,hQ⟩
def comR (r:Rm):Int:=if r.op then r.nx else r.ep
theorem zpI {K:Kd} {H:Heap} {L:Nat → V} {rm:Nat → Rm} {Q:Nat → List Ot} {ns:List Nat} {nw:Int} (hh:DW K H L rm Q ns nw) {i:Nat} (hi:i < 4) :
  Ok (sem T zcV [.ptr K.d (i * 367)]) H fun x H'=>x = .int .i64 (comR (rm i)) ∧ Grow H H':=by
 refine zi8 ?_;unfold zgF uS uF uNF;obtain ⟨D,q,h,hQ⟩:=hh;have g:=h.blk;have hr:=h.rk hi;simp (disch:=omega) only [↓RD,RZ,g,hr];refine zae (P:=fun x H'=>x = .int .i64 (comR (rm i)) ∧ Grow H H') ?_ ?_
 ·refine zik ?_;unfold zfI uFM uO;have hok:(V.agg (kC (rm i))).okc = true:=by simp [V.okc,kC]
  refine zan (zaH hok ?_);rw [zai];have s0:=Grow.new H ⟨zar,kC (rm i),none⟩;have g0:(H.new ⟨zar,kC (rm i),none⟩).get H.next = some ⟨zar,kC (rm i),none⟩:=zad _ _;generalize hq:H.next = w at *;generalize H.new _ = H0 at *;have k0:(kC (rm i))[0]? = some (.int .i64 (rm i).ep):=rfl;have k1:(kC (rm i))[1]? = some (.bool (rm i).op):=rfl;have k2:(kC (rm i))[2]? = some (.int .i64 (rm i).nx):=rfl;unfold comR;cases ho:(rm i).op with
  | false=>rw [ho] at k1; simp (disch:=omega) only [↓RD,RZ,g0,k0,k1]; exact s0
  | true=>rw [ho] at k1; simp (disch:=omega) only [↓RD,RZ,g0,k2,k1]; exact s0
 ·rintro _ H1 ⟨rfl,s1⟩;simp (disch:=omega) only [↓RD,RZ];exact s1
end Go.Ax.SU
/- De7 -/
namespace Go.Ax.SU
open Go.Ax
end Go.Ax.SU
/- De8 -/
namespace Go.Ax.SU
open Go.Ax
theorem FrD.by {lo lb:Nat} {L L':Nat → V} {H H':Heap} {v:V} {l:List Nat} (f:FrD lo L L' H H') (hv:By lb H v l) (hl:lo ≤ lb) (hn:∀ a i,a < 64 → v.pid = some i → (L a).pid ≠ some i):By lb H' v l :=
 ⟨by rw [zdv fun i hi=>f.same i (Nat.le_trans hl (hv.own i hi).1) (hv.own i hi).2 fun a ha=>hn a i ha hi]; exact hv.rc,fun i hi=>⟨(hv.own i hi).1,Nat.lt_of_lt_of_le (hv.own i hi).2 f.next⟩,hv.cap⟩
theorem DW.old {K:Kd} {H:Heap} {L:Nat → V} {rm:Nat → Rm} {Q:Nat → List Ot} {ns:List Nat} {nw:Int} (h:DW K H L rm Q ns nw) {a i:Nat} (ha:a < 64) (hi:H.next ≤ i):(L a).pid ≠ some i:=by
 obtain ⟨D,q,h1,h2⟩:=h;intro e;have:=((h1.pm.app a ha).lc.own i e).2;omega
end Go.Ax.SU
/- De9 -/
namespace Go.Ax.SU
open Go.Ax
def tkR:List (V × Ot) → V
 | []=>.tup [.agg [.int .i64 0,.int .i64 0,.nils],.bool false]
 | e :: _=>.tup [.agg (oC e),.bool true]
theorem PM.each1 {lo a:Nat} {H:Heap} {P:Nat → Nat} {L:Nat → V} {q:Nat → List (V × Ot)} (hQ:PM lo H P L q) (ha:a < 64):∀ e ∈ q a,e.1.cells = [e.1] ∧ e.1.okc = true:=fun e he=>⟨(hQ.each a ha e he).1.cells1,(hQ.each a ha e he).1.okc⟩
theorem zl1 {lo a:Nat} {H:Heap} {P:Nat → Nat} {L:Nat → V} {q:Nat → List (V × Ot)} (hQ:PM lo H P L q) (ha:a < 64) :
  Ok (sem T zaZ [.ptr (P a) 0]) H fun r H'=>r = tkR (q a) ∧ AtS [P a] H H' ∧ ∃ x,PM lo H' P (upd L a x) (upd q a (q a).tail) ∧ x.pid = (L a).pid:=by
 refine zdJ ?_;unfold zcb uL uS uT uNFM uNF uB uI uO uc;have hp:=hQ.blk a ha;have hap:=hQ.app a ha;have hlow:=hQ.low a ha;have htop:=hQ.top;have hb:=hQ.each1 ha;refine zan (zaH rfl ?_);rw [zai];have s0:=Grow.new H ⟨tyOu,[.int .i64 0,.int .i64 0,.nils],none⟩;have g0:(H.new ⟨tyOu,[.int .i64 0,.int .i64 0,.nils],none⟩).get H.next = some ⟨tyOu,[.int .i64 0,.int .i64 0,.nils],none⟩:=zad _ _;have n0:(H.new ⟨tyOu,[.int .i64 0,.int .i64 0,.nils],none⟩).next = H.next + 1:=zag _ _;generalize hpp:P a = p at *;generalize hq:H.next = k at *;generalize H.new _ = H0 at *;refine zan (zaH rfl ?_);rw [zai];have s1:=Grow.new H0 ⟨tyOu,[.int .i64 0,.int .i64 0,.nils],none⟩;have g1:(H0.new ⟨tyOu,[.int .i64 0,.int .i64 0,.nils],none⟩).get H0.next = some ⟨tyOu,[.int .i64 0,.int .i64 0,.nils],none⟩:=zad _ _;have n1:(H0.new ⟨tyOu,[.int .i64 0,.int .i64 0,.nils],none⟩).next = H0.next + 1:=zag _ _;have g01:=(s1.same k (by omega)).trans g0;have hq1:H0.next = k + 1:=n0;rw [hq1] at g1 n1 ⊢;generalize H0.new _ = H1 at *;have s01:=s0.trans s1;have hp1:=(s01.same p (by omega)).trans hp;have hvl:=(hap.lc.ext s01).vlen;cases hqa:q a with
 | nil =>
  rw [hqa] at hvl;have e0:(((([]:List (V × Ot)).length:Nat):Int) == 0) = true:=rfl;simp (disch:=first | omega | (simp only [RY] <;> omega) | decide) only [↓RD,RZ,eq_self,Int.reduceToNat,Int.reduceAdd,Nat.reduceAdd,Nat.reduceSub,Nat.reduceMul,Nat.reduceLeDiff,hp1,hvl,e0,g1,g01];have gr:∀ b,Grow H (H1.set k b):=fun b=>AtS.new (S:=[k]) s01 (AtS.set H1 (by simp) b) (by simp; omega);refine ⟨rfl,(gr _).atS _,L a,?_,rfl⟩;have e1:([]:List (V × Ot)).tail = q a:=by rw [hqa]; rfl
  rw [e1,upd_same,upd_same];exact hQ.grow (gr _)
 | cons e l =>
  rw [hqa] at hvl hb hap;have e0:((((e :: l:List (V × Ot)).length:Nat):Int) == 0) = false:=by simp; omega
  have e0':((e :: l:List (V × Ot)).length == 0) = false:=by simp
  have hlv1:=hap.lc.ext s01;obtain ⟨p0,hp0,hl0⟩:=hlv1.at (i:=0) (by omega) (by simp);rw [zpy rfl] at hl0;have la:=hl0.all;obtain ⟨lv',hs,hsl,hpid,vc',vo'⟩:=hap.tail (c:=oC e) (l:=(l.map oC).flatten) (n:=l.length) (by rw [List.map_cons,List.flatten_cons]) rfl;obtain ⟨ec,eo⟩:=hb e List.mem_cons_self;have hol:(oC e).length = 3:=rfl;rw [hol] at la;simp (disch:=omega) only [↓RD,RZ,hp1,hvl,e0,e0',hp0];rw [zb8];refine okb_ldr la ?_;refine za0 rfl rfl fun q5 H2 e5 g5 s2 n2=>?_;have hp2:=(s2.same p (by omega)).trans hp1;have g02:=(s2.same k (by omega)).trans g01;have l3:ldc (some 3) (oC e) 0 = some (.agg (oC e)):=rfl;have ok3:(V.agg (oC e)).okc = true:=by simp [oC,V.okc,eo]
  have sp3:splice [.int .i64 0,.int .i64 0,.nils] 0 (oC e) = oC e:=rfl;simp (disch:=first | omega | (simp only [RY] <;> omega) | decide) only [↓RD,RZ,eq_self,Int.reduceToNat,Int.reduceAdd,Nat.reduceAdd,Nat.reduceSub,Nat.reduceMul,Nat.reduceLeDiff,hp2,hs,vc',vo',g5,l3,g02,zai,hol,ok3,sp3];have a3:AtS [p] H ((H2.set p (some ⟨tyPo,[.int .i64 32,lv'],none⟩)).set k (some ⟨tyOu,oC e,none⟩)):=((Grow.atS (s01.trans s2) _).trans (AtS.set H2 (by simp) _)).setn' (by omega) _;have hsame:∀ i,i < H.next → i ≠ p → ((H2.set p (some ⟨tyPo,[.int .i64 32,lv'],none⟩)).set k (some ⟨tyOu,oC e,none⟩)).get i = H.get i:=fun i hi hip=>a3.same i hi (by simp; exact hip);refine ⟨rfl,a3,lv',?_,hpid⟩;have hown:=hap.lc.own;have hps:∀ i,lv'.pid = some i → ((H2.set p (some ⟨tyPo,[.int .i64 32,lv'],none⟩)).set k (some ⟨tyOu,oC e,none⟩)).get i = H.get i:=fun i hi=>by
   have:=hown i (hpid ▸ hi);exact hsame i (by omega) (by omega)
  refine hQ.post ha a3.next (fun i hi hip _=>hsame i hi (by rw [← hpp]; exact hip)) (by rw [hpp,zaD _ _ (by omega),zaY]) (hsl.to hps a3.next) ?_ (fun i hi=>.inr (hpid ▸ hi)) fun e' he'=>?_
  ·have:=hQ.le a ha;rw [hqa] at this;simp only [List.tail_cons,List.length_cons] at this ⊢;omega
  ·have hmem:e' ∈ q a:=by rw [hqa]; exact List.mem_cons_of_mem _ he'
   obtain ⟨k1,k2⟩:=hQ.each a ha e' hmem;refine ⟨Lc.atS k1 a3 fun i hi e''=>?_,fun i hi hx=>k2 a i ha hi (hpid ▸ hx),fun b i hb' hi _=>k2 b i hb' hi⟩;have:=(k1.own i hi).1;simp only [List.mem_singleton] at e'';omega
theorem DA.take {K:Kd} {H H':Heap} {L:Nat → V} {D:List V} {rm:Nat → Rm} {q:Nat → List (V × Ot)} {ns:List Nat} {nw:Int} {a:Nat} {x:V} {l:List (V × Ot)} (h:DA K H L D rm q ns nw) (ha:a < 64) (s:AtS [K.P a] H H') (hq:PM K.lo H' K.P (upd L a x) (upd q a l)):DA K H' (upd L a x) D rm (upd q a l) ns nw:=by
 have:=h.pm.top;exact h.post ha ⟨s.next,fun i hi hp=>s.same i (by omega) (by simp; exact hp)⟩ hq
theorem PM.below {lo m:Nat} {H H':Heap} {P:Nat → Nat} {L:Nat → V} {q:Nat → List (V × Ot)} (h:PM lo H P L q) (hm:lo ≤ m) (hL:∀ b i,b < 64 → (L b).pid = some i → i < m) (hE:∀ b,b < 64 → ∀ e ∈ q b,∀ i,e.1.pid = some i → i < m) (hs:∀ i,i < m → H'.get i = H.get i) (hn:H.next ≤ H'.next):PM lo H' P L q :=
 ⟨Nat.le_trans h.top hn,h.low,h.inj,fun a ha=>(hs _ (Nat.lt_of_lt_of_le (h.low a ha) hm)).trans (h.blk a ha),fun a ha=>(h.app a ha).to (fun i hi=>hs i (hL a i ha hi)) hn,h.le,h.sep,fun a ha e he=>⟨⟨by rw [zdv fun i hi=>hs i (hE a ha e he i hi)]; exact (h.each a ha e he).1.rc,fun i hi=>⟨((h.each a ha e he).1.own i hi).1,Nat.lt_of_lt_of_le ((h.each a ha e he).1.own i hi).2 hn⟩,(h.each a ha e he).1.cap⟩,(h.each a ha e he).2⟩⟩
theorem DA.below {m:Nat} {K:Kd} {H H':Heap} {L:Nat → V} {D:List V} {rm:Nat → Rm} {q:Nat → List (V × Ot)} {ns:List Nat} {nw:Int} (h:DA K H L D rm q ns nw) (hm:K.lo ≤ m) (hL:∀ b i,b < 64 → (L b).pid = some i → i < m) (hE:∀ b,b < 64 → ∀ e ∈ q b,∀ i,e.1.pid = some i → i < m) (hs:∀ i,i < m → H'.get i = H.get i) (hn:H.next ≤ H'.next):DA K H' L D rm q ns nw:=by
 have h2:=h.dl;have h3:=h.Cl;have h4:=h.cl;obtain ⟨cap,g1⟩:=h.cm.hd;obtain ⟨o,g2⟩:=h.cm.bd;exact { h with blk:=(hs K.d (by omega)).trans h.blk,cm:=⟨⟨cap,(hs K.C (by omega)).trans g1⟩,⟨o,(hs K.cs (by omega)).trans g2⟩,h.cm.len,h.cm.small⟩,pm:=h.pm.below hm hL hE hs hn }
theorem znr {a n:Nat} {K:Kd} {H:Heap} {L:Nat → V} {rm:Nat → Rm} {Q:Nat → List Ot} {ns:List Nat} {nw:Int} (hh:DW K H L rm Q ns nw) (ha:a < 64) (hn:n ≤ 32) :
  Ok (sem T zbq [.ptr K.d 0,.int .i64 (a:Nat),.int .i64 (n:Nat)]) H fun r H'=>∃ (l:List (V × Ot)) (x:V),Lc 3 H.next H' r ((l.map oC).flatten) l.length ∧ l.map (·.2) = (Q a).take n ∧ (∀ e ∈ l,By K.lo H' e.1 e.2.b) ∧ FrD K.lo L (upd L a x) H H' ∧ DW K H' (upd L a x) rm (upd Q a ((Q a).drop n)) ns nw:=by
 refine zgc ?_;unfold zep uc ug;obtain ⟨D,q,h,hQ⟩:=hh;have hia:=fun {k}=>@ia64 K.d a ha k;have hpo:=h.po a ha;have hlow:=h.pm.low a ha;have htop:=h.pm.top;have hle:=h.pm.le a ha;have hb:=h.pm.each1 ha;have hpid:=(h.pm.app a ha).lc.own;simp (disch:=omega) only [↓RD,RZ];refine zaL (Q:=fun r H'=>∃ w x,r = .ex 0 [w] ∧ AtS [K.P a] H H' ∧ App tyOu 3 H.next H' w ((((q a).take n).map oC).flatten) ((q a).take n).length ∧ DA K H' (upd L a x) D rm (upd q a ((q a).drop n)) ns nw ∧ x.pid = (L a).pid) ?_ ?_
 ·refine zbM (fun j L0 H'=>∃ w x,L0 = [w,.int .i64 (j:Nat)] ∧ AtS [K.P a] H H' ∧ App tyOu 3 H.next H' w ((((q a).take j).map oC).flatten) ((q a).take j).length ∧ DA K H' (upd L a x) D rm (upd q a ((q a).drop j)) ns nw ∧ x.pid = (L a).pid) (min n (q a).length) ?_ ?_ ?_
  ·refine ⟨.nils,L a,rfl,AtS.refl _ _,App.nil,?_,rfl⟩;rw [List.drop_zero,upd_same,upd_same];exact h
  ·rintro j _ H1 hj ⟨w,x,rfl,a1,hw,h1,hp1⟩;have hjn:j < n:=by omega
   have hje:j < (q a).length:=by omega
   have d1:decide (((j:Nat):Int) < ((n:Nat):Int)) = true:=decide_eq_true (by omega);have d1':decide (j < n) = true:=decide_eq_true hjn;have n1:=a1.next;have gd:=h1.blk;unfold zcj uL uS uT uNF uE uB uIM uO uc ug;simp (disch:=omega) only [↓RD,RZ,d1,d1',gd,hia,hpo];refine zae (zl1 h1.pm ha) ?_;rintro r2 H2 ⟨rfl,a2,x2,hq2,hp2⟩;rw [zaB] at hp2;rw [zaB] at hq2;rw [zaB];have ed:(q a).drop j = (q a)[j] :: (q a).drop (j + 1):=List.drop_eq_getElem_cons hje;have eu:upd (upd L a x) a x2 = upd L a x2:=by funext b; unfold upd; split <;> rfl
   have eq':upd (upd q a ((q a).drop j)) a ((q a).drop j).tail = upd q a ((q a).drop (j + 1)):=by
    funext b; unfold upd; split
    ·rw [ed]; rfl
    ·rfl
   rw [eu,eq'] at hq2;have h2:=DA.post (L':=upd L a x2) (q':=upd q a ((q a).drop (j + 1))) h1 ha ⟨a2.next,fun i hi hip=>a2.same i (by omega) (by simp; exact hip)⟩ hq2;rw [ed];unfold tkR;dsimp only;have et:(q a).take (j + 1) = (q a).take j ++ [(q a)[j]]:=by rw [List.take_add_one,List.getElem?_eq_getElem hje]; rfl
   obtain ⟨ec,eo⟩:=hb _ (List.getElem_mem hje);generalize hej:(q a)[j] = e at *;refine zap rfl ?_;refine zap rfl ?_;have n2:=a2.next;refine za0 rfl rfl fun q3 H3 e3 g3 s3 n3=>?_;have l3:ldc (some 3) (oC e) 0 = some (.agg (oC e)):=rfl;have ok3:(V.agg (oC e)).okc = true:=by simp [oC,V.okc,eo]
   have ef:(if (oC e).length = 3 then some (splice [.int .i64 0,.int .i64 0,.nils] 0 (oC e)) else none) = some (oC e):=rfl;have w1:IntKind.i64.wrap (((j:Nat):Int) + 1) = ((j + 1:Nat):Int):=by rw [wrap_i64 (by omega) (by omega)]; omega
   have a12:=a1.trans a2;have hw2:=hw.atS a2 fun i hi e=>by
    have:=(hw.lc.own i hi).1;simp only [List.mem_singleton] at e;omega
   have s4:=Grow.new H3 ⟨tyOu,oC e,none⟩;have hw4:=hw2.atS (Grow.atS (s3.trans s4) []) (by simp);have hya:=zl0 (H:=H3) (ty:=tyOu) (o:=none) (cap:=.fix 1) (n:=1) (e:=3) (id:=H3.next) rfl (cs:=oC e) rfl;have n4:(H3.new ⟨tyOu,oC e,none⟩).next = H3.next + 1:=zag _ _;have h4:=h2.grow (s3.trans s4);simp (disch:=first | omega | (simp only [RY] <;> omega) | decide) only [↓RD,RZ,eq_self,Int.reduceToNat,Int.reduceAdd,Nat.reduceAdd,Nat.reduceSub,Nat.reduceMul,Nat.reduceLeDiff,g3,l3,zai,ok3,ef];rw [zb8];generalize H3.new _ = H4 at *;have hlt:((q a).take j).length ≤ 32:=by rw [List.length_take]; omega
   refine zka (bytes:=40) hw4 (by omega) hya rfl (by omega) (by omega) fun w5 H5 hx st5=>?_;simp (disch:=omega) only [↓RD,RZ,w1];have n5:=st5.next;have hown:=hw.lc.own;have n3':=s3.next;have a45:∀ i,i < H.next → H5.get i = H4.get i:=fun i hi=>st5.same i (by omega) (fun e=>by have:=(hown i (by simpa [zd2] using e)).1; omega);have a5:AtS [K.P a] H H5:=⟨by omega,fun i hi hip=>by
    rw [a45 i hi,s4.same i (by omega),s3.same i (by omega),a12.same i hi hip]⟩
   have hp2':x2.pid = (L a).pid:=hp2.trans hp1;have h5:DA K H5 (upd L a x2) D rm (upd q a ((q a).drop (j + 1))) ns nw:=h4.below (m:=H.next) htop (fun b i hb' hi=>?_) (fun b hb' e' he' i hi=>?_) (fun i hi=>a45 i hi) (by omega)
   ·refine ⟨w5,x2,rfl,a5,?_,h5,hp2'⟩;have e1:((((q a).take (j + 1)).map oC).flatten) = ((((q a).take j).map oC).flatten) ++ oC e:=by rw [et]; simp
    have e2:((q a).take (j + 1)).length = ((q a).take j).length + 1:=by rw [et]; simp
    rw [e1,e2];exact hx
   ·by_cases hba:b = a
    ·subst hba;rw [zaB] at hi;exact (hpid i (hp2' ▸ hi)).2
    ·rw [upd_ne _ _ hba] at hi;exact ((h.pm.app b hb').lc.own i hi).2
   ·have hmem:e' ∈ q b:=by
     by_cases hba:b = a
     ·subst hba;rw [zaB] at he';exact List.mem_of_mem_drop he'
     ·rw [upd_ne _ _ hba] at he';exact he'
    exact ((h.pm.each b hb' e' hmem).1.own i hi).2
  ·rintro _ H1 ⟨w,x,rfl,a1,hw,h1,hp1⟩;have gd:=h1.blk;unfold zcj uL uS uT uNF uE uB uIM uO uc ug;by_cases hne:n ≤ (q a).length
   ·have em:min n (q a).length = n:=Nat.min_eq_left hne;rw [em] at hw h1 ⊢;have d1:decide (((n:Nat):Int) < ((n:Nat):Int)) = false:=decide_eq_false (by omega);have d1':decide (n < n) = false:=decide_eq_false (by omega);simp (disch:=omega) only [↓RD,RZ,d1,d1'];exact ⟨w,x,rfl,a1,hw,h1,hp1⟩
   ·have em:min n (q a).length = (q a).length:=Nat.min_eq_right (by omega);rw [em] at hw h1 ⊢;have d1:decide ((((q a).length:Nat):Int) < ((n:Nat):Int)) = true:=decide_eq_true (by omega);have d1':decide ((q a).length < n) = true:=decide_eq_true (by omega);have ed:(q a).drop (q a).length = []:=List.drop_of_length_le (Nat.le_refl _);have et:(q a).take n = q a:=List.take_of_length_le (by omega);have et':(q a).take (q a).length = q a:=List.take_of_length_le (Nat.le_refl _);have edn:(q a).drop n = []:=List.drop_of_length_le (by omega);rw [ed] at h1;rw [et'] at hw;simp (disch:=omega) only [↓RD,RZ,d1,d1',gd,hia,hpo];refine zae (zl1 h1.pm ha) ?_;rintro r2 H2 ⟨rfl,a2,x2,hq2,hp2⟩;rw [zaB] at hp2;rw [zaB] at hq2;rw [zaB];have eu:upd (upd L a x) a x2 = upd L a x2:=by funext b; unfold upd; split <;> rfl
    have eq':upd (upd q a []) a ([]:List (V × Ot)).tail = upd q a []:=by
     funext b; unfold upd; split <;> rfl
    rw [eu,eq'] at hq2;have n2:=a2.next;have n1:=a1.next;have h2:=DA.post (L':=upd L a x2) (q':=upd q a []) h1 ha ⟨a2.next,fun i hi hip=>a2.same i (by omega) (by simp; exact hip)⟩ hq2;unfold tkR;dsimp only;refine zap rfl ?_;refine zap rfl ?_;refine za0 rfl rfl fun q3 H3 e3 g3 s3 n3=>?_;simp (disch:=omega) only [↓RD,RZ];have hw2:=hw.atS a2 fun i hi e=>by
     have:=(hw.lc.own i hi).1;simp only [List.mem_singleton] at e;omega
    refine ⟨w,x2,rfl,(a1.trans a2).trans (Grow.atS s3 _),?_,?_,hp2.trans hp1⟩
    ·rw [et]; exact hw2.atS (Grow.atS s3 []) (by simp)
    ·rw [edn]; exact h2.grow s3
 ·rintro _ H1 ⟨w,x,rfl,a1,hw,h1,hp1⟩;simp (disch:=omega) only [↓RD,RZ];refine ⟨(q a).take n,x,hw.lc,by rw [← hQ a,List.map_take],fun e he=>?_,⟨a1.next,fun i hl hi hn'=>a1.same i hi (by simp; omega),fun b i hb' hi=>.inr ?_⟩,D,_,h1,?_⟩
  ·have hmem:=List.mem_of_mem_take he;obtain ⟨k1,k2⟩:=h.pm.each a ha e hmem;refine Lc.atS k1 a1 fun i hi e''=>?_;have:=(k1.own i hi).1;simp only [List.mem_singleton] at e'';omega
  ·by_cases hba:b = a
   ·subst hba;rw [zaB] at hi;exact ⟨b,hb',hp1 ▸ hi⟩
   ·rw [upd_ne _ _ hba] at hi;exact ⟨b,hb',hi⟩
  ·have:=zl5 hQ a ((q a).drop n);rw [List.map_drop,hQ a] at this;exact this
end Go.Ax.SU
/- De10 -/
namespace Go.Ax.SU
open Go.Ax
theorem in_wi {H1:Heap} {x lo hi:Int} {f:V → M Res} {Q:Res → Heap → Prop} (h1:lo ≤ x) (h2:x ≤ hi):@OkB V Res (sem T zax [.int .i64 x,.int .i64 lo,.int .i64 hi]) H1 ⟨f⟩ ⟨Q⟩ ↔ Ok (f (.bool true)) H1 Q:=by
 have:=@zbi _ _ _ _ (@in_ok H1 x lo hi);rw [decide_eq_true h1,decide_eq_true h2] at this;exact this
theorem zdl {H1:Heap} (l:List Nat) (c:Int) (b:Bool) (h:Ok8 l) (hl:l.length ≤ 1000) (hc:c = (c.toNat:Nat)) (e:l.contains c.toNat = b) {f:V → M Res} {Q:Res → Heap → Prop}:@OkB V Res (sem T zav [txt l,.int .u8 c]) H1 ⟨f⟩ ⟨Q⟩ ↔ Ok (f (.bool b)) H1 Q:=by
 have:=@zbi _ _ _ _ (@has_ok H1 l c.toNat h hl);rw [e,← hc] at this;exact this
end Go.Ax.SU
